/-
  The walk of the examples at the head of every statement on types: it returns true.
-/
import Derived.Test.YtcmodmchnokmgaaTyR
import Derived.Deep.DeepCutAuto
namespace Go.Proofs.Ytcmodmchnokmgaa
set_option linter.unusedSimpArgs false
set_option linter.unusedVariables false
open Go.RowKit

theorem nd_row1 {W : World} {B : Nat} {cs : List Value} (h : Row W B cs) (op : Int) (x : Ex) (hcs : cs = [x].flatMap Ex.cells) (hx : x.In W) : (nd op B [x]).In W :=
  nd_row h op [x] hcs (fun y hy => by simp at hy; subst hy; exact hx) (by simp)
theorem nd_row2 {W : World} {B : Nat} {cs : List Value} (h : Row W B cs) (op : Int) (x y : Ex) (hcs : cs = [x, y].flatMap Ex.cells) (hx : x.In W) (hy : y.In W) : (nd op B [x, y]).In W :=
  nd_row h op [x, y] hcs (fun z hz => by simp at hz; rcases hz with rfl | rfl <;> assumption) (by simp)
theorem nd_row3 {W : World} {B : Nat} {cs : List Value} (h : Row W B cs) (op : Int) (x y z : Ex) (hcs : cs = [x, y, z].flatMap Ex.cells) (hx : x.In W) (hy : y.In W) (hz : z.In W) : (nd op B [x, y, z]).In W :=
  nd_row h op [x, y, z] hcs (fun u hu => by simp at hu; rcases hu with rfl | rfl | rfl <;> assumption) (by simp)
theorem e_money (A B : Nat) : inferV (nd 4 A [lf 2 10000, nd 6 B [lf 2 2000, lf 3 2]]) = 2 ∧ inferE (nd 4 A [lf 2 10000, nd 6 B [lf 2 2000, lf 3 2]]) = 0 := by constructor <;> kernel_rfl
theorem e_five (A : Nat) : inferV (nd 11 A [lf 3 1, lf 1 5]) = 3 ∧ inferE (nd 11 A [lf 3 1, lf 1 5]) = 0 := by constructor <;> kernel_rfl
theorem e_if (A B : Nat) : inferV (nd 10 A [nd 11 B [lf 3 1, lf 1 5], lf 1 1, lf 1 2]) = 1 ∧ inferE (nd 10 A [nd 11 B [lf 3 1, lf 1 5], lf 1 1, lf 1 2]) = 0 := by constructor <;> kernel_rfl
theorem e_x0 (A : Nat) : inferV (nd 4 A [lf 2 100, lf 3 2]) = 0 ∧ inferE (nd 4 A [lf 2 100, lf 3 2]) = 20 := by constructor <;> kernel_rfl
theorem e_x1 (A : Nat) : inferV (nd 6 A [lf 2 100, lf 2 100]) = 0 ∧ inferE (nd 6 A [lf 2 100, lf 2 100]) = 20 := by constructor <;> kernel_rfl
theorem e_x2 (A : Nat) : inferV (nd 15 A [lf 1 1]) = 0 ∧ inferE (nd 15 A [lf 1 1]) = 20 := by constructor <;> kernel_rfl
theorem e_x3 (A : Nat) : inferV (nd 7 A [lf 1 1, lf 2 100]) = 0 ∧ inferE (nd 7 A [lf 1 1, lf 2 100]) = 20 := by constructor <;> kernel_rfl
theorem e_none : inferV (lf 0 0) = 0 ∧ inferE (lf 0 0) = 1 := by constructor <;> kernel_rfl
theorem e_plain (A : Nat) : rateB (plR 7 A) = true ∧ rateE (plR 7 A) = 0 := by constructor <;> kernel_rfl
abbrev zeR : RateV := ⟨0, 0, 0, 0, 0, 0, 0, 0, 0, 0, lf 0 0, lf 0 0⟩
theorem e_zero : rateB zeR = false ∧ rateE zeR = 1 := by constructor <;> kernel_rfl
theorem e_two (A B : Nat) : validR [plR 7 A, plR 8 B] = true := by kernel_rfl
theorem e_same (A B : Nat) : validR [plR 7 A, plR 7 B] = false := by kernel_rfl
theorem rate_pe (r : RateV) (w : World) (h : r.In w) (p : Bool) (E : Int) (hp : rateB r = p ∧ rateE r = E) :
    Calls Try.prog 18 #[.agg #[.int .i64 r.id, .int .i64 r.lv, .int .i64 r.kd, .int .i64 r.fr, .int .i64 r.un, .int .i64 r.ls, .int .i64 r.ms, .int .i64 r.ar, .int .i64 r.kn, .int .i64 r.kk, .int .i64 r.wh.op, .int .i64 r.wh.n, .slice r.wh.at' r.wh.ks.length r.wh.cap, .int .i64 r.pr.op, .int .i64 r.pr.n, .slice r.pr.at' r.pr.ks.length r.pr.cap]] w fun e w' => e = .returned (.tuple #[.bool p, .int .i64 E]) ∧ Below w.heap.size w w' := by
  obtain ⟨rfl, rfl⟩ := hp; exact rate_any r w h
theorem infer_pe (x : Ex) (w : World) (h : x.In w) (V E : Int) (hp : inferV x = V ∧ inferE x = E) :
    Calls Try.prog 16 #[.agg #[.int .i64 x.op, .int .i64 x.n, .slice x.at' x.ks.length x.cap]] w fun e w' => e = .returned (.tuple #[.int .i64 V, .int .i64 E]) ∧ Below w.heap.size w w' :=
  infer_p x w h V E hp.1 hp.2

set_option maxRecDepth 100000 in
set_option maxHeartbeats 12800000 in
theorem head_any (w : World) : Calls Try.prog 13 #[] w fun e w' => e = .returned (.bool true) ∧ Below w.heap.size w w' := by
  go_enter Try.func13, Try.ntmps13
  go_wp2_with fail
  refine (leaf_any 3 2 _).mono ?_
  rintro e w1 ⟨rfl, hb1⟩
  have HB1 : Below w.heap.size w w1 := by (repeat' (first | (with_reducible exact Below.refl _ _) | (with_reducible assumption) | (with_reducible exact Bw.out (by with_reducible assumption)) | (with_reducible refine bw_alloc ?_ _) | (with_reducible refine bw_step ?_ (by with_reducible assumption)) | (with_reducible refine Below.alloc ?_ ?_ _) | (with_reducible refine Below.drew ?_) | (with_reducible refine below_drewN ?_ _) | (with_reducible refine Below.setCell ?_ ?_ _) | (with_reducible refine below_step ?_ (by with_reducible assumption) ?_) | (with_reducible exact Nat.le_refl _) | omega | (simp; omega) | (simp; done)))
  go_wp2_with fail
  refine (leaf_any 3 1 _).mono ?_
  rintro e w2 ⟨rfl, hb2⟩
  have HB2 : Below w.heap.size w w2 := by (repeat' (first | (with_reducible exact Below.refl _ _) | (with_reducible assumption) | (with_reducible exact Bw.out (by with_reducible assumption)) | (with_reducible refine bw_alloc ?_ _) | (with_reducible refine bw_step ?_ (by with_reducible assumption)) | (with_reducible refine Below.alloc ?_ ?_ _) | (with_reducible refine Below.drew ?_) | (with_reducible refine below_drewN ?_ _) | (with_reducible refine Below.setCell ?_ ?_ _) | (with_reducible refine below_step ?_ (by with_reducible assumption) ?_) | (with_reducible exact Nat.le_refl _) | omega | (simp; omega) | (simp; done)))
  clear hb1 HB1
  go_wp2_with fail
  refine (leaf_any 1 5 _).mono ?_
  rintro e w3 ⟨rfl, hb3⟩
  have HB3 : Below w.heap.size w w3 := by (repeat' (first | (with_reducible exact Below.refl _ _) | (with_reducible assumption) | (with_reducible exact Bw.out (by with_reducible assumption)) | (with_reducible refine bw_alloc ?_ _) | (with_reducible refine bw_step ?_ (by with_reducible assumption)) | (with_reducible refine Below.alloc ?_ ?_ _) | (with_reducible refine Below.drew ?_) | (with_reducible refine below_drewN ?_ _) | (with_reducible refine Below.setCell ?_ ?_ _) | (with_reducible refine below_step ?_ (by with_reducible assumption) ?_) | (with_reducible exact Nat.le_refl _) | omega | (simp; omega) | (simp; done)))
  clear hb2 HB2
  go_wp2_with fail
  refine (node_any 11 _ 2 2 _).mono ?_
  rintro e w4 ⟨rfl, hb4⟩
  have R_b_4 : Row w4 (w3.heap.size) [.int .i64 3, .int .i64 1, .slice none 0 0, .int .i64 1, .int .i64 5, .slice none 0 0] := by (repeat' (first | (with_reducible assumption) | (with_reducible refine Row.new' _ _ _ (by first | rfl | (simp; done) | omega)) | (with_reducible refine Row.alloc ?_ _) | (with_reducible refine Row.drew ?_) | (with_reducible refine Row.drewN ?_ _) | (with_reducible refine Row.step ?_ (by with_reducible assumption)) | (with_reducible refine Row.set2' ?_ _ _; first | exact ⟨_, _, by with_reducible assumption⟩ | exact ⟨_, _, Row.alloc (by with_reducible assumption) _⟩ | exact ⟨_, _, Row.alloc (Row.alloc (by with_reducible assumption) _) _⟩) | (with_reducible refine Row.other ?_ (by first | omega | (simp; done) | (simp; omega)) _)))
  have c_b_0_4 := R_b_4.cell 0 rfl
  have c_b_1_4 := R_b_4.cell 1 rfl
  have c_b_2_4 := R_b_4.cell 2 rfl
  have c_b_3_4 := R_b_4.cell 3 rfl
  have c_b_4_4 := R_b_4.cell 4 rfl
  have c_b_5_4 := R_b_4.cell 5 rfl
  have l_b_4 := R_b_4.lt
  have HB4 : Below w.heap.size w w4 := by (repeat' (first | (with_reducible exact Below.refl _ _) | (with_reducible assumption) | (with_reducible exact Bw.out (by with_reducible assumption)) | (with_reducible refine bw_alloc ?_ _) | (with_reducible refine bw_step ?_ (by with_reducible assumption)) | (with_reducible refine Below.alloc ?_ ?_ _) | (with_reducible refine Below.drew ?_) | (with_reducible refine below_drewN ?_ _) | (with_reducible refine Below.setCell ?_ ?_ _) | (with_reducible refine below_step ?_ (by with_reducible assumption) ?_) | (with_reducible exact Nat.le_refl _) | omega | (simp; omega) | (simp; done)))
  clear hb3 HB3
  go_wp2_with fail
  obtain ⟨w5, hw5⟩ : ∃ x, World.alloc (World.alloc w4 (.cells #[.int .i64 3, .int .i64 2, .slice none 0 0] 24)) (.cells #[.int .i64 11, .int .i64 0, .slice (some ⟨w3.heap.size, 0, none⟩) 2 2] 24) = x := ⟨_, rfl⟩
  rw [hw5]
  have hb5 : Below w4.heap.size w4 w5 := by rw [← hw5]; (repeat' (first | (with_reducible exact Below.refl _ _) | (with_reducible assumption) | (with_reducible exact Bw.out (by with_reducible assumption)) | (with_reducible refine bw_alloc ?_ _) | (with_reducible refine bw_step ?_ (by with_reducible assumption)) | (with_reducible refine Below.alloc ?_ ?_ _) | (with_reducible refine Below.drew ?_) | (with_reducible refine below_drewN ?_ _) | (with_reducible refine Below.setCell ?_ ?_ _) | (with_reducible refine below_step ?_ (by with_reducible assumption) ?_) | (with_reducible exact Nat.le_refl _) | omega | (simp; omega) | (simp; done)))
  have R_b_5 : Row w5 (w3.heap.size) [.int .i64 3, .int .i64 1, .slice none 0 0, .int .i64 1, .int .i64 5, .slice none 0 0] := by rw [← hw5]; (repeat' (first | (with_reducible assumption) | (with_reducible refine Row.new' _ _ _ (by first | rfl | (simp; done) | omega)) | (with_reducible refine Row.alloc ?_ _) | (with_reducible refine Row.drew ?_) | (with_reducible refine Row.drewN ?_ _) | (with_reducible refine Row.step ?_ (by with_reducible assumption)) | (with_reducible refine Row.set2' ?_ _ _; first | exact ⟨_, _, by with_reducible assumption⟩ | exact ⟨_, _, Row.alloc (by with_reducible assumption) _⟩ | exact ⟨_, _, Row.alloc (Row.alloc (by with_reducible assumption) _) _⟩) | (with_reducible refine Row.other ?_ (by first | omega | (simp; done) | (simp; omega)) _)))
  have c_b_0_5 := R_b_5.cell 0 rfl
  have c_b_1_5 := R_b_5.cell 1 rfl
  have c_b_2_5 := R_b_5.cell 2 rfl
  have c_b_3_5 := R_b_5.cell 3 rfl
  have c_b_4_5 := R_b_5.cell 4 rfl
  have c_b_5_5 := R_b_5.cell 5 rfl
  have l_b_5 := R_b_5.lt
  have R_p_5 : Row w5 (w4.heap.size) [.int .i64 3, .int .i64 2, .slice none 0 0] := by rw [← hw5]; (repeat' (first | (with_reducible assumption) | (with_reducible refine Row.new' _ _ _ (by first | rfl | (simp; done) | omega)) | (with_reducible refine Row.alloc ?_ _) | (with_reducible refine Row.drew ?_) | (with_reducible refine Row.drewN ?_ _) | (with_reducible refine Row.step ?_ (by with_reducible assumption)) | (with_reducible refine Row.set2' ?_ _ _; first | exact ⟨_, _, by with_reducible assumption⟩ | exact ⟨_, _, Row.alloc (by with_reducible assumption) _⟩ | exact ⟨_, _, Row.alloc (Row.alloc (by with_reducible assumption) _) _⟩) | (with_reducible refine Row.other ?_ (by first | omega | (simp; done) | (simp; omega)) _)))
  have c_p_0_5 := R_p_5.cell 0 rfl
  have c_p_1_5 := R_p_5.cell 1 rfl
  have c_p_2_5 := R_p_5.cell 2 rfl
  have l_p_5 := R_p_5.lt
  have R_f_5 : Row w5 (w4.heap.size + 1) [.int .i64 11, .int .i64 0, .slice (some ⟨w3.heap.size, 0, none⟩) 2 2] := by rw [← hw5]; (repeat' (first | (with_reducible assumption) | (with_reducible refine Row.new' _ _ _ (by first | rfl | (simp; done) | omega)) | (with_reducible refine Row.alloc ?_ _) | (with_reducible refine Row.drew ?_) | (with_reducible refine Row.drewN ?_ _) | (with_reducible refine Row.step ?_ (by with_reducible assumption)) | (with_reducible refine Row.set2' ?_ _ _; first | exact ⟨_, _, by with_reducible assumption⟩ | exact ⟨_, _, Row.alloc (by with_reducible assumption) _⟩ | exact ⟨_, _, Row.alloc (Row.alloc (by with_reducible assumption) _) _⟩) | (with_reducible refine Row.other ?_ (by first | omega | (simp; done) | (simp; omega)) _)))
  have c_f_0_5 := R_f_5.cell 0 rfl
  have c_f_1_5 := R_f_5.cell 1 rfl
  have c_f_2_5 := R_f_5.cell 2 rfl
  have l_f_5 := R_f_5.lt
  have HB5 := HB4.trans (hb5.mono HB4.size)
  have hs5 := hb5.size
  have hz5 := HB5.size
  clear R_b_4 c_b_0_4 c_b_1_4 c_b_2_4 c_b_3_4 c_b_4_4 c_b_5_4 hb4 HB4
  go_cut [3] from 27 to 33 (fun v wx => ∃ g B3 B2 : Nat, v = .pointer (some ⟨g, 0, none⟩) ∧ Row wx (g) [.int .i64 4, .int .i64 0, .slice (some ⟨B3, 0, none⟩) 2 2] ∧ Row wx (B3) [.int .i64 2, .int .i64 10000, .slice none 0 0, .int .i64 6, .int .i64 0, .slice (some ⟨B2, 0, none⟩) 2 2] ∧ Row wx (B2) [.int .i64 2, .int .i64 2000, .slice none 0 0, .int .i64 3, .int .i64 2, .slice none 0 0] ∧ Row wx (w3.heap.size) [.int .i64 3, .int .i64 1, .slice none 0 0, .int .i64 1, .int .i64 5, .slice none 0 0] ∧ Row wx (w4.heap.size) [.int .i64 3, .int .i64 2, .slice none 0 0] ∧ Row wx (w4.heap.size + 1) [.int .i64 11, .int .i64 0, .slice (some ⟨w3.heap.size, 0, none⟩) 2 2] ∧ Below w.heap.size w wx)
  case first =>
    refine AnyJ.beginP (fun w' : World => w'.cell? ⟨w3.heap.size, 0, none⟩ = some (.int .i64 3) ∧ w'.cell? ⟨w3.heap.size, 1, none⟩ = some (.int .i64 1) ∧ w'.cell? ⟨w3.heap.size, 2, none⟩ = some (.slice none 0 0) ∧ w'.cell? ⟨w3.heap.size, 3, none⟩ = some (.int .i64 1) ∧ w'.cell? ⟨w3.heap.size, 4, none⟩ = some (.int .i64 5) ∧ w'.cell? ⟨w3.heap.size, 5, none⟩ = some (.slice none 0 0) ∧ w'.cell? ⟨w4.heap.size, 0, none⟩ = some (.int .i64 3) ∧ w'.cell? ⟨w4.heap.size, 1, none⟩ = some (.int .i64 2) ∧ w'.cell? ⟨w4.heap.size, 2, none⟩ = some (.slice none 0 0) ∧ w'.cell? ⟨w4.heap.size + 1, 0, none⟩ = some (.int .i64 11) ∧ w'.cell? ⟨w4.heap.size + 1, 1, none⟩ = some (.int .i64 0) ∧ w'.cell? ⟨w4.heap.size + 1, 2, none⟩ = some (.slice (some ⟨w3.heap.size, 0, none⟩) 2 2)) (fun _ => true) (by kernel_rfl) ?_ (fun hS5 => ?_)
    · exact (show ∀ (P S : World → Prop) (W : World), P W → (∀ w', P w' → S w') → S W from fun P S W h f => f W h) (fun w' : World => Row w' (w3.heap.size) [.int .i64 3, .int .i64 1, .slice none 0 0, .int .i64 1, .int .i64 5, .slice none 0 0] ∧ Row w' (w4.heap.size) [.int .i64 3, .int .i64 2, .slice none 0 0] ∧ Row w' (w4.heap.size + 1) [.int .i64 11, .int .i64 0, .slice (some ⟨w3.heap.size, 0, none⟩) 2 2]) (fun w' : World => w'.cell? ⟨w3.heap.size, 0, none⟩ = some (.int .i64 3) ∧ w'.cell? ⟨w3.heap.size, 1, none⟩ = some (.int .i64 1) ∧ w'.cell? ⟨w3.heap.size, 2, none⟩ = some (.slice none 0 0) ∧ w'.cell? ⟨w3.heap.size, 3, none⟩ = some (.int .i64 1) ∧ w'.cell? ⟨w3.heap.size, 4, none⟩ = some (.int .i64 5) ∧ w'.cell? ⟨w3.heap.size, 5, none⟩ = some (.slice none 0 0) ∧ w'.cell? ⟨w4.heap.size, 0, none⟩ = some (.int .i64 3) ∧ w'.cell? ⟨w4.heap.size, 1, none⟩ = some (.int .i64 2) ∧ w'.cell? ⟨w4.heap.size, 2, none⟩ = some (.slice none 0 0) ∧ w'.cell? ⟨w4.heap.size + 1, 0, none⟩ = some (.int .i64 11) ∧ w'.cell? ⟨w4.heap.size + 1, 1, none⟩ = some (.int .i64 0) ∧ w'.cell? ⟨w4.heap.size + 1, 2, none⟩ = some (.slice (some ⟨w3.heap.size, 0, none⟩) 2 2)) _ (⟨by (repeat' (first | (with_reducible assumption) | (with_reducible refine Row.new' _ _ _ (by first | rfl | (simp; done) | omega)) | (with_reducible refine Row.alloc ?_ _) | (with_reducible refine Row.drew ?_) | (with_reducible refine Row.drewN ?_ _) | (with_reducible refine Row.step ?_ (by with_reducible assumption)) | (with_reducible refine Row.set2' ?_ _ _; first | exact ⟨_, _, by with_reducible assumption⟩ | exact ⟨_, _, Row.alloc (by with_reducible assumption) _⟩ | exact ⟨_, _, Row.alloc (Row.alloc (by with_reducible assumption) _) _⟩) | (with_reducible refine Row.other ?_ (by first | omega | (simp; done) | (simp; omega)) _))), by (repeat' (first | (with_reducible assumption) | (with_reducible refine Row.new' _ _ _ (by first | rfl | (simp; done) | omega)) | (with_reducible refine Row.alloc ?_ _) | (with_reducible refine Row.drew ?_) | (with_reducible refine Row.drewN ?_ _) | (with_reducible refine Row.step ?_ (by with_reducible assumption)) | (with_reducible refine Row.set2' ?_ _ _; first | exact ⟨_, _, by with_reducible assumption⟩ | exact ⟨_, _, Row.alloc (by with_reducible assumption) _⟩ | exact ⟨_, _, Row.alloc (Row.alloc (by with_reducible assumption) _) _⟩) | (with_reducible refine Row.other ?_ (by first | omega | (simp; done) | (simp; omega)) _))), by (repeat' (first | (with_reducible assumption) | (with_reducible refine Row.new' _ _ _ (by first | rfl | (simp; done) | omega)) | (with_reducible refine Row.alloc ?_ _) | (with_reducible refine Row.drew ?_) | (with_reducible refine Row.drewN ?_ _) | (with_reducible refine Row.step ?_ (by with_reducible assumption)) | (with_reducible refine Row.set2' ?_ _ _; first | exact ⟨_, _, by with_reducible assumption⟩ | exact ⟨_, _, Row.alloc (by with_reducible assumption) _⟩ | exact ⟨_, _, Row.alloc (Row.alloc (by with_reducible assumption) _) _⟩) | (with_reducible refine Row.other ?_ (by first | omega | (simp; done) | (simp; omega)) _)))⟩) (fun w' ⟨hP0, hP1, hP2⟩ => ⟨hP0.cell 0 rfl, hP0.cell 1 rfl, hP0.cell 2 rfl, hP0.cell 3 rfl, hP0.cell 4 rfl, hP0.cell 5 rfl, hP1.cell 0 rfl, hP1.cell 1 rfl, hP1.cell 2 rfl, hP2.cell 0 rfl, hP2.cell 1 rfl, hP2.cell 2 rfl⟩)
    obtain ⟨w6, hw6⟩ : ∃ x, World.drew w5 = x := ⟨_, rfl⟩
    rw [hw6] at hS5 ⊢
    have hb6 : Below w5.heap.size w5 w6 := by rw [← hw6]; exact (Below.refl _ _).drew
    have R_b_6 := R_b_5.step hb6
    have c_b_0_6 := R_b_6.cell 0 rfl
    have c_b_1_6 := R_b_6.cell 1 rfl
    have c_b_2_6 := R_b_6.cell 2 rfl
    have c_b_3_6 := R_b_6.cell 3 rfl
    have c_b_4_6 := R_b_6.cell 4 rfl
    have c_b_5_6 := R_b_6.cell 5 rfl
    have l_b_6 := R_b_6.lt
    have R_p_6 := R_p_5.step hb6
    have c_p_0_6 := R_p_6.cell 0 rfl
    have c_p_1_6 := R_p_6.cell 1 rfl
    have c_p_2_6 := R_p_6.cell 2 rfl
    have l_p_6 := R_p_6.lt
    have R_f_6 := R_f_5.step hb6
    have c_f_0_6 := R_f_6.cell 0 rfl
    have c_f_1_6 := R_f_6.cell 1 rfl
    have c_f_2_6 := R_f_6.cell 2 rfl
    have l_f_6 := R_f_6.lt
    have HB6 := HB5.trans (hb6.mono HB5.size)
    have hs6 := hb6.size
    have hz6 := HB6.size
    clear R_b_5 c_b_0_5 c_b_1_5 c_b_2_5 c_b_3_5 c_b_4_5 c_b_5_5 R_p_5 c_p_0_5 c_p_1_5 c_p_2_5 R_f_5 c_f_0_5 c_f_1_5 c_f_2_5 hb5 hw5
    refine AnyJ.takeD (i := 2) (d := some 29) (v := ?_) rfl (by kernel_rfl) (by kernel_rfl) (by kernel_rfl) (by kernel_rfl) (by kernel_rfl) (fun _ _ _ h => h) (Or.inl ⟨by kernel_rfl, ?_⟩) hS5 ?_
    rotate_left
    · intro w' hS
      obtain ⟨sF0, sF1, sF2, sF3, sF4, sF5, sF6, sF7, sF8, sF9, sF10, sF11⟩ := hS
      go_simp
      try with_reducible rfl
    refine AnyJ.two (i := 0) (j := 7) (by kernel_rfl) rfl rfl (fun Kz hKz => ?_) (fun Kz hKz => ?_)
    ·
      go_simp
      refine (leaf_any 2 10000 _).mono ?_
      rintro e w7 ⟨rfl, hb7⟩
      have R_b_7 := R_b_6.step hb7
      have c_b_0_7 := R_b_7.cell 0 rfl
      have c_b_1_7 := R_b_7.cell 1 rfl
      have c_b_2_7 := R_b_7.cell 2 rfl
      have c_b_3_7 := R_b_7.cell 3 rfl
      have c_b_4_7 := R_b_7.cell 4 rfl
      have c_b_5_7 := R_b_7.cell 5 rfl
      have l_b_7 := R_b_7.lt
      have R_p_7 := R_p_6.step hb7
      have c_p_0_7 := R_p_7.cell 0 rfl
      have c_p_1_7 := R_p_7.cell 1 rfl
      have c_p_2_7 := R_p_7.cell 2 rfl
      have l_p_7 := R_p_7.lt
      have R_f_7 := R_f_6.step hb7
      have c_f_0_7 := R_f_7.cell 0 rfl
      have c_f_1_7 := R_f_7.cell 1 rfl
      have c_f_2_7 := R_f_7.cell 2 rfl
      have l_f_7 := R_f_7.lt
      have HB7 := HB6.trans (hb7.mono HB6.size)
      have hs7 := hb7.size
      have hz7 := HB7.size
      have hS7 := And.intro c_b_0_7 (And.intro c_b_1_7 (And.intro c_b_2_7 (And.intro c_b_3_7 (And.intro c_b_4_7 (And.intro c_b_5_7 (And.intro c_p_0_7 (And.intro c_p_1_7 (And.intro c_p_2_7 (And.intro c_f_0_7 (And.intro c_f_1_7 (c_f_2_7)))))))))))
      refine hKz _ _ (fun _ => hS7) ?_
      clear hKz Kz hS5
      clear R_b_6 c_b_0_6 c_b_1_6 c_b_2_6 c_b_3_6 c_b_4_6 c_b_5_6 R_p_6 c_p_0_6 c_p_1_6 c_p_2_6 R_f_6 c_f_0_6 c_f_1_6 c_f_2_6 hb6 hw6
      refine AnyJ.two (i := 1) (j := 7) (by kernel_rfl) rfl rfl (fun Kz hKz => ?_) (fun Kz hKz => ?_)
      ·
        go_simp
        refine (leaf_any 2 2000 _).mono ?_
        rintro e w8 ⟨rfl, hb8⟩
        have R_b_8 := R_b_7.step hb8
        have c_b_0_8 := R_b_8.cell 0 rfl
        have c_b_1_8 := R_b_8.cell 1 rfl
        have c_b_2_8 := R_b_8.cell 2 rfl
        have c_b_3_8 := R_b_8.cell 3 rfl
        have c_b_4_8 := R_b_8.cell 4 rfl
        have c_b_5_8 := R_b_8.cell 5 rfl
        have l_b_8 := R_b_8.lt
        have R_p_8 := R_p_7.step hb8
        have c_p_0_8 := R_p_8.cell 0 rfl
        have c_p_1_8 := R_p_8.cell 1 rfl
        have c_p_2_8 := R_p_8.cell 2 rfl
        have l_p_8 := R_p_8.lt
        have R_f_8 := R_f_7.step hb8
        have c_f_0_8 := R_f_8.cell 0 rfl
        have c_f_1_8 := R_f_8.cell 1 rfl
        have c_f_2_8 := R_f_8.cell 2 rfl
        have l_f_8 := R_f_8.lt
        have HB8 := HB7.trans (hb8.mono HB7.size)
        have hs8 := hb8.size
        have hz8 := HB8.size
        have hS8 := And.intro c_b_0_8 (And.intro c_b_1_8 (And.intro c_b_2_8 (And.intro c_b_3_8 (And.intro c_b_4_8 (And.intro c_b_5_8 (And.intro c_p_0_8 (And.intro c_p_1_8 (And.intro c_p_2_8 (And.intro c_f_0_8 (And.intro c_f_1_8 (c_f_2_8)))))))))))
        refine hKz _ _ (fun _ => hS8) ?_
        clear hKz Kz hS7
        clear R_b_7 c_b_0_7 c_b_1_7 c_b_2_7 c_b_3_7 c_b_4_7 c_b_5_7 R_p_7 c_p_0_7 c_p_1_7 c_p_2_7 R_f_7 c_f_0_7 c_f_1_7 c_f_2_7 hb7
        refine AnyJ.two (i := 3) (j := 7) (by kernel_rfl) rfl rfl (fun Kz hKz => ?_) (fun Kz hKz => ?_)
        ·
          go_simp
          generalize hw9 : World.alloc w8 _ = w9
          have hb9 : Below w8.heap.size w8 w9 := by rw [← hw9]; exact (Below.refl _ _).alloc (Nat.le_refl _) _
          have R_b_9 := R_b_8.step hb9
          have c_b_0_9 := R_b_9.cell 0 rfl
          have c_b_1_9 := R_b_9.cell 1 rfl
          have c_b_2_9 := R_b_9.cell 2 rfl
          have c_b_3_9 := R_b_9.cell 3 rfl
          have c_b_4_9 := R_b_9.cell 4 rfl
          have c_b_5_9 := R_b_9.cell 5 rfl
          have l_b_9 := R_b_9.lt
          have R_p_9 := R_p_8.step hb9
          have c_p_0_9 := R_p_9.cell 0 rfl
          have c_p_1_9 := R_p_9.cell 1 rfl
          have c_p_2_9 := R_p_9.cell 2 rfl
          have l_p_9 := R_p_9.lt
          have R_f_9 := R_f_8.step hb9
          have c_f_0_9 := R_f_9.cell 0 rfl
          have c_f_1_9 := R_f_9.cell 1 rfl
          have c_f_2_9 := R_f_9.cell 2 rfl
          have l_f_9 := R_f_9.lt
          have R_q_9 : Row w9 (w8.heap.size) [.int .i64 2, .int .i64 2000, .slice none 0 0, .int .i64 3, .int .i64 2, .slice none 0 0] := by rw [← hw9]; exact Row.new' _ _ _ rfl
          have l_q_9 := R_q_9.lt
          have HB9 := HB8.trans (hb9.mono HB8.size)
          have hs9 := hb9.size
          have hz9 := HB9.size
          have hS9 := And.intro c_b_0_9 (And.intro c_b_1_9 (And.intro c_b_2_9 (And.intro c_b_3_9 (And.intro c_b_4_9 (And.intro c_b_5_9 (And.intro c_p_0_9 (And.intro c_p_1_9 (And.intro c_p_2_9 (And.intro c_f_0_9 (And.intro c_f_1_9 (c_f_2_9)))))))))))
          refine hKz _ _ (fun _ => hS9) ?_
          clear hKz Kz hS8
          clear R_b_8 c_b_0_8 c_b_1_8 c_b_2_8 c_b_3_8 c_b_4_8 c_b_5_8 R_p_8 c_p_0_8 c_p_1_8 c_p_2_8 R_f_8 c_f_0_8 c_f_1_8 c_f_2_8 hb8
          refine AnyJ.two (i := 4) (j := 7) (by kernel_rfl) rfl rfl (fun Kz hKz => ?_) (fun Kz hKz => ?_)
          ·
            go_simp
            refine (node_any 6 _ 2 2 _).mono ?_
            rintro e w10 ⟨rfl, hb10⟩
            have R_b_10 := R_b_9.step hb10
            have c_b_0_10 := R_b_10.cell 0 rfl
            have c_b_1_10 := R_b_10.cell 1 rfl
            have c_b_2_10 := R_b_10.cell 2 rfl
            have c_b_3_10 := R_b_10.cell 3 rfl
            have c_b_4_10 := R_b_10.cell 4 rfl
            have c_b_5_10 := R_b_10.cell 5 rfl
            have l_b_10 := R_b_10.lt
            have R_p_10 := R_p_9.step hb10
            have c_p_0_10 := R_p_10.cell 0 rfl
            have c_p_1_10 := R_p_10.cell 1 rfl
            have c_p_2_10 := R_p_10.cell 2 rfl
            have l_p_10 := R_p_10.lt
            have R_f_10 := R_f_9.step hb10
            have c_f_0_10 := R_f_10.cell 0 rfl
            have c_f_1_10 := R_f_10.cell 1 rfl
            have c_f_2_10 := R_f_10.cell 2 rfl
            have l_f_10 := R_f_10.lt
            have R_q_10 := R_q_9.step hb10
            have l_q_10 := R_q_10.lt
            have HB10 := HB9.trans (hb10.mono HB9.size)
            have hs10 := hb10.size
            have hz10 := HB10.size
            have hS10 := And.intro c_b_0_10 (And.intro c_b_1_10 (And.intro c_b_2_10 (And.intro c_b_3_10 (And.intro c_b_4_10 (And.intro c_b_5_10 (And.intro c_p_0_10 (And.intro c_p_1_10 (And.intro c_p_2_10 (And.intro c_f_0_10 (And.intro c_f_1_10 (c_f_2_10)))))))))))
            refine hKz _ _ (fun _ => hS10) ?_
            clear hKz Kz hS9
            clear R_b_9 c_b_0_9 c_b_1_9 c_b_2_9 c_b_3_9 c_b_4_9 c_b_5_9 R_p_9 c_p_0_9 c_p_1_9 c_p_2_9 R_f_9 c_f_0_9 c_f_1_9 c_f_2_9 R_q_9 hb9 hw9
            refine AnyJ.two (i := 5) (j := 7) (by kernel_rfl) rfl rfl (fun Kz hKz => ?_) (fun Kz hKz => ?_)
            ·
              go_simp
              generalize hw11 : World.alloc w10 _ = w11
              have hb11 : Below w10.heap.size w10 w11 := by rw [← hw11]; exact (Below.refl _ _).alloc (Nat.le_refl _) _
              have R_b_11 := R_b_10.step hb11
              have c_b_0_11 := R_b_11.cell 0 rfl
              have c_b_1_11 := R_b_11.cell 1 rfl
              have c_b_2_11 := R_b_11.cell 2 rfl
              have c_b_3_11 := R_b_11.cell 3 rfl
              have c_b_4_11 := R_b_11.cell 4 rfl
              have c_b_5_11 := R_b_11.cell 5 rfl
              have l_b_11 := R_b_11.lt
              have R_p_11 := R_p_10.step hb11
              have c_p_0_11 := R_p_11.cell 0 rfl
              have c_p_1_11 := R_p_11.cell 1 rfl
              have c_p_2_11 := R_p_11.cell 2 rfl
              have l_p_11 := R_p_11.lt
              have R_f_11 := R_f_10.step hb11
              have c_f_0_11 := R_f_11.cell 0 rfl
              have c_f_1_11 := R_f_11.cell 1 rfl
              have c_f_2_11 := R_f_11.cell 2 rfl
              have l_f_11 := R_f_11.lt
              have R_q_11 := R_q_10.step hb11
              have l_q_11 := R_q_11.lt
              have R_m_11 : Row w11 (w10.heap.size) [.int .i64 2, .int .i64 10000, .slice none 0 0, .int .i64 6, .int .i64 0, .slice (some ⟨(w8.heap.size), 0, none⟩) 2 2] := by rw [← hw11]; exact Row.new' _ _ _ rfl
              have l_m_11 := R_m_11.lt
              have HB11 := HB10.trans (hb11.mono HB10.size)
              have hs11 := hb11.size
              have hz11 := HB11.size
              have hS11 := And.intro c_b_0_11 (And.intro c_b_1_11 (And.intro c_b_2_11 (And.intro c_b_3_11 (And.intro c_b_4_11 (And.intro c_b_5_11 (And.intro c_p_0_11 (And.intro c_p_1_11 (And.intro c_p_2_11 (And.intro c_f_0_11 (And.intro c_f_1_11 (c_f_2_11)))))))))))
              refine hKz _ _ (fun _ => hS11) ?_
              clear hKz Kz hS10
              clear R_b_10 c_b_0_10 c_b_1_10 c_b_2_10 c_b_3_10 c_b_4_10 c_b_5_10 R_p_10 c_p_0_10 c_p_1_10 c_p_2_10 R_f_10 c_f_0_10 c_f_1_10 c_f_2_10 R_q_10 hb10
              refine AnyJ.two (i := 6) (j := 7) (by kernel_rfl) rfl rfl (fun Kz hKz => ?_) (fun Kz hKz => ?_)
              ·
                go_simp
                refine (node_any 4 _ 2 2 _).mono ?_
                rintro e w12 ⟨rfl, hb12⟩
                have R_b_12 := R_b_11.step hb12
                have c_b_0_12 := R_b_12.cell 0 rfl
                have c_b_1_12 := R_b_12.cell 1 rfl
                have c_b_2_12 := R_b_12.cell 2 rfl
                have c_b_3_12 := R_b_12.cell 3 rfl
                have c_b_4_12 := R_b_12.cell 4 rfl
                have c_b_5_12 := R_b_12.cell 5 rfl
                have l_b_12 := R_b_12.lt
                have R_p_12 := R_p_11.step hb12
                have c_p_0_12 := R_p_12.cell 0 rfl
                have c_p_1_12 := R_p_12.cell 1 rfl
                have c_p_2_12 := R_p_12.cell 2 rfl
                have l_p_12 := R_p_12.lt
                have R_f_12 := R_f_11.step hb12
                have c_f_0_12 := R_f_12.cell 0 rfl
                have c_f_1_12 := R_f_12.cell 1 rfl
                have c_f_2_12 := R_f_12.cell 2 rfl
                have l_f_12 := R_f_12.lt
                have R_q_12 := R_q_11.step hb12
                have l_q_12 := R_q_12.lt
                have R_m_12 := R_m_11.step hb12
                have l_m_12 := R_m_12.lt
                have HB12 := HB11.trans (hb12.mono HB11.size)
                have hs12 := hb12.size
                have hz12 := HB12.size
                have hS12 := And.intro c_b_0_12 (And.intro c_b_1_12 (And.intro c_b_2_12 (And.intro c_b_3_12 (And.intro c_b_4_12 (And.intro c_b_5_12 (And.intro c_p_0_12 (And.intro c_p_1_12 (And.intro c_p_2_12 (And.intro c_f_0_12 (And.intro c_f_1_12 (c_f_2_12)))))))))))
                refine hKz _ _ (fun _ => hS12) ?_
                clear hKz Kz hS11
                clear R_b_11 c_b_0_11 c_b_1_11 c_b_2_11 c_b_3_11 c_b_4_11 c_b_5_11 R_p_11 c_p_0_11 c_p_1_11 c_p_2_11 R_f_11 c_f_0_11 c_f_1_11 c_f_2_11 R_q_11 R_m_11 hb11 hw11
                refine AnyJ.one (i := 7) (by kernel_rfl) rfl (fun Kz hKz => ?_)
                go_simp
                generalize hw13 : World.alloc w12 _ = w13
                have hb13 : Below w12.heap.size w12 w13 := by rw [← hw13]; exact (Below.refl _ _).alloc (Nat.le_refl _) _
                have R_b_13 := R_b_12.step hb13
                have c_b_0_13 := R_b_13.cell 0 rfl
                have c_b_1_13 := R_b_13.cell 1 rfl
                have c_b_2_13 := R_b_13.cell 2 rfl
                have c_b_3_13 := R_b_13.cell 3 rfl
                have c_b_4_13 := R_b_13.cell 4 rfl
                have c_b_5_13 := R_b_13.cell 5 rfl
                have l_b_13 := R_b_13.lt
                have R_p_13 := R_p_12.step hb13
                have c_p_0_13 := R_p_13.cell 0 rfl
                have c_p_1_13 := R_p_13.cell 1 rfl
                have c_p_2_13 := R_p_13.cell 2 rfl
                have l_p_13 := R_p_13.lt
                have R_f_13 := R_f_12.step hb13
                have c_f_0_13 := R_f_13.cell 0 rfl
                have c_f_1_13 := R_f_13.cell 1 rfl
                have c_f_2_13 := R_f_13.cell 2 rfl
                have l_f_13 := R_f_13.lt
                have R_q_13 := R_q_12.step hb13
                have l_q_13 := R_q_13.lt
                have R_m_13 := R_m_12.step hb13
                have l_m_13 := R_m_13.lt
                have R_g_13 : Row w13 (w12.heap.size) [.int .i64 0, .int .i64 0, .slice none 0 0] := by rw [← hw13]; exact Row.new' _ _ _ rfl
                have c_g_0_13 := R_g_13.cell 0 rfl
                have c_g_1_13 := R_g_13.cell 1 rfl
                have c_g_2_13 := R_g_13.cell 2 rfl
                have z_g_0_13 := R_g_13.frozen 0
                have z_g_1_13 := R_g_13.frozen 1
                have z_g_2_13 := R_g_13.frozen 2
                have l_g_13 := R_g_13.lt
                have HB13 := HB12.trans (hb13.mono HB12.size)
                have hs13 := hb13.size
                have hz13 := HB13.size
                have hS13 := And.intro c_b_0_13 (And.intro c_b_1_13 (And.intro c_b_2_13 (And.intro c_b_3_13 (And.intro c_b_4_13 (And.intro c_b_5_13 (And.intro c_p_0_13 (And.intro c_p_1_13 (And.intro c_p_2_13 (And.intro c_f_0_13 (And.intro c_f_1_13 (c_f_2_13)))))))))))
                refine hKz _ _ (fun _ => hS13) ?_
                clear hKz Kz hS12
                clear R_b_12 c_b_0_12 c_b_1_12 c_b_2_12 c_b_3_12 c_b_4_12 c_b_5_12 R_p_12 c_p_0_12 c_p_1_12 c_p_2_12 R_f_12 c_f_0_12 c_f_1_12 c_f_2_12 R_q_12 R_m_12 hb12
                refine AnyJ.one (i := 8) (by kernel_rfl) rfl (fun Kz hKz => ?_)
                go_simp
                have hP14 := put_all R_g_13 [.int .i64 4, .int .i64 0, .slice (some ⟨(w10.heap.size), 0, none⟩) 2 2] rfl
                simp only [Go.Proofs.Ytcmodmchnokmgaa.puts, Nat.reduceAdd, Nat.zero_add] at hP14
                obtain ⟨w14, hw14⟩ : ∃ x, (World.setCell (World.setCell (World.setCell w13 ⟨w12.heap.size, 0, none⟩ (.int .i64 4)) ⟨w12.heap.size, 1, none⟩ (.int .i64 0)) ⟨w12.heap.size, 2, none⟩ (.slice (some ⟨(w10.heap.size), 0, none⟩) 2 2)) = x := ⟨_, rfl⟩
                rw [hw14] at hP14 ⊢
                obtain ⟨hR14, hC14⟩ := hP14
                have R_b_14 := R_b_13.ch hC14 (by omega)
                have c_b_0_14 := R_b_14.cell 0 rfl
                have c_b_1_14 := R_b_14.cell 1 rfl
                have c_b_2_14 := R_b_14.cell 2 rfl
                have c_b_3_14 := R_b_14.cell 3 rfl
                have c_b_4_14 := R_b_14.cell 4 rfl
                have c_b_5_14 := R_b_14.cell 5 rfl
                have l_b_14 := R_b_14.lt
                have R_p_14 := R_p_13.ch hC14 (by omega)
                have c_p_0_14 := R_p_14.cell 0 rfl
                have c_p_1_14 := R_p_14.cell 1 rfl
                have c_p_2_14 := R_p_14.cell 2 rfl
                have l_p_14 := R_p_14.lt
                have R_f_14 := R_f_13.ch hC14 (by omega)
                have c_f_0_14 := R_f_14.cell 0 rfl
                have c_f_1_14 := R_f_14.cell 1 rfl
                have c_f_2_14 := R_f_14.cell 2 rfl
                have l_f_14 := R_f_14.lt
                have R_q_14 := R_q_13.ch hC14 (by omega)
                have l_q_14 := R_q_14.lt
                have R_m_14 := R_m_13.ch hC14 (by omega)
                have l_m_14 := R_m_14.lt
                have R_g_14 := hR14
                have c_g_0_14 := R_g_14.cell 0 rfl
                have c_g_1_14 := R_g_14.cell 1 rfl
                have c_g_2_14 := R_g_14.cell 2 rfl
                have z_g_0_14 := R_g_14.frozen 0
                have z_g_1_14 := R_g_14.frozen 1
                have z_g_2_14 := R_g_14.frozen 2
                have l_g_14 := R_g_14.lt
                have HB14 : Below w.heap.size w w14 := hC14.below HB13 (fun k hk => by omega) HB13.size
                have hs14 := hC14.size
                have hz14 := HB14.size
                have hS14 := And.intro c_b_0_14 (And.intro c_b_1_14 (And.intro c_b_2_14 (And.intro c_b_3_14 (And.intro c_b_4_14 (And.intro c_b_5_14 (And.intro c_p_0_14 (And.intro c_p_1_14 (And.intro c_p_2_14 (And.intro c_f_0_14 (And.intro c_f_1_14 (c_f_2_14)))))))))))
                refine hKz _ _ (fun _ => hS14) ?_
                clear hKz Kz hS13
                clear R_b_13 c_b_0_13 c_b_1_13 c_b_2_13 c_b_3_13 c_b_4_13 c_b_5_13 R_p_13 c_p_0_13 c_p_1_13 c_p_2_13 R_f_13 c_f_0_13 c_f_1_13 c_f_2_13 R_q_13 R_m_13 R_g_13 c_g_0_13 c_g_1_13 c_g_2_13 z_g_0_13 z_g_1_13 z_g_2_13 hb13 hw13
                refine AnyJ.done (by kernel_rfl) ?_ _
                clear hS14
                try simp only [Act.put, List.setIfInBounds_toArray, List.set_cons_zero, List.set_cons_succ]
                go_wp2_with fail
                go_meet
                exact ⟨w12.heap.size, w10.heap.size, w8.heap.size, rfl, R_g_14, R_m_14, R_q_14, R_b_14, R_p_14, R_f_14, HB14⟩
              ·
                go_simp
                generalize hw12 : World.alloc w11 _ = w12
                have hb12 : Below w11.heap.size w11 w12 := by rw [← hw12]; exact (Below.refl _ _).alloc (Nat.le_refl _) _
                have R_b_12 := R_b_11.step hb12
                have c_b_0_12 := R_b_12.cell 0 rfl
                have c_b_1_12 := R_b_12.cell 1 rfl
                have c_b_2_12 := R_b_12.cell 2 rfl
                have c_b_3_12 := R_b_12.cell 3 rfl
                have c_b_4_12 := R_b_12.cell 4 rfl
                have c_b_5_12 := R_b_12.cell 5 rfl
                have l_b_12 := R_b_12.lt
                have R_p_12 := R_p_11.step hb12
                have c_p_0_12 := R_p_12.cell 0 rfl
                have c_p_1_12 := R_p_12.cell 1 rfl
                have c_p_2_12 := R_p_12.cell 2 rfl
                have l_p_12 := R_p_12.lt
                have R_f_12 := R_f_11.step hb12
                have c_f_0_12 := R_f_12.cell 0 rfl
                have c_f_1_12 := R_f_12.cell 1 rfl
                have c_f_2_12 := R_f_12.cell 2 rfl
                have l_f_12 := R_f_12.lt
                have R_q_12 := R_q_11.step hb12
                have l_q_12 := R_q_12.lt
                have R_m_12 := R_m_11.step hb12
                have l_m_12 := R_m_12.lt
                have R_g_12 : Row w12 (w11.heap.size) [.int .i64 0, .int .i64 0, .slice none 0 0] := by rw [← hw12]; exact Row.new' _ _ _ rfl
                have c_g_0_12 := R_g_12.cell 0 rfl
                have c_g_1_12 := R_g_12.cell 1 rfl
                have c_g_2_12 := R_g_12.cell 2 rfl
                have z_g_0_12 := R_g_12.frozen 0
                have z_g_1_12 := R_g_12.frozen 1
                have z_g_2_12 := R_g_12.frozen 2
                have l_g_12 := R_g_12.lt
                have HB12 := HB11.trans (hb12.mono HB11.size)
                have hs12 := hb12.size
                have hz12 := HB12.size
                have hS12 := And.intro c_b_0_12 (And.intro c_b_1_12 (And.intro c_b_2_12 (And.intro c_b_3_12 (And.intro c_b_4_12 (And.intro c_b_5_12 (And.intro c_p_0_12 (And.intro c_p_1_12 (And.intro c_p_2_12 (And.intro c_f_0_12 (And.intro c_f_1_12 (c_f_2_12)))))))))))
                refine hKz _ _ (fun _ => hS12) ?_
                clear hKz Kz hS11
                clear R_b_11 c_b_0_11 c_b_1_11 c_b_2_11 c_b_3_11 c_b_4_11 c_b_5_11 R_p_11 c_p_0_11 c_p_1_11 c_p_2_11 R_f_11 c_f_0_11 c_f_1_11 c_f_2_11 R_q_11 R_m_11 hb11 hw11
                refine AnyJ.one (i := 6) (by kernel_rfl) rfl (fun Kz hKz => ?_)
                go_simp
                refine (node_any 4 _ 2 2 _).mono ?_
                rintro e w13 ⟨rfl, hb13⟩
                have R_b_13 := R_b_12.step hb13
                have c_b_0_13 := R_b_13.cell 0 rfl
                have c_b_1_13 := R_b_13.cell 1 rfl
                have c_b_2_13 := R_b_13.cell 2 rfl
                have c_b_3_13 := R_b_13.cell 3 rfl
                have c_b_4_13 := R_b_13.cell 4 rfl
                have c_b_5_13 := R_b_13.cell 5 rfl
                have l_b_13 := R_b_13.lt
                have R_p_13 := R_p_12.step hb13
                have c_p_0_13 := R_p_13.cell 0 rfl
                have c_p_1_13 := R_p_13.cell 1 rfl
                have c_p_2_13 := R_p_13.cell 2 rfl
                have l_p_13 := R_p_13.lt
                have R_f_13 := R_f_12.step hb13
                have c_f_0_13 := R_f_13.cell 0 rfl
                have c_f_1_13 := R_f_13.cell 1 rfl
                have c_f_2_13 := R_f_13.cell 2 rfl
                have l_f_13 := R_f_13.lt
                have R_q_13 := R_q_12.step hb13
                have l_q_13 := R_q_13.lt
                have R_m_13 := R_m_12.step hb13
                have l_m_13 := R_m_13.lt
                have R_g_13 := R_g_12.step hb13
                have c_g_0_13 := R_g_13.cell 0 rfl
                have c_g_1_13 := R_g_13.cell 1 rfl
                have c_g_2_13 := R_g_13.cell 2 rfl
                have z_g_0_13 := R_g_13.frozen 0
                have z_g_1_13 := R_g_13.frozen 1
                have z_g_2_13 := R_g_13.frozen 2
                have l_g_13 := R_g_13.lt
                have HB13 := HB12.trans (hb13.mono HB12.size)
                have hz13 := HB13.size
                have hS13 := And.intro c_b_0_13 (And.intro c_b_1_13 (And.intro c_b_2_13 (And.intro c_b_3_13 (And.intro c_b_4_13 (And.intro c_b_5_13 (And.intro c_p_0_13 (And.intro c_p_1_13 (And.intro c_p_2_13 (And.intro c_f_0_13 (And.intro c_f_1_13 (c_f_2_13)))))))))))
                refine hKz _ _ (fun _ => hS13) ?_
                clear hKz Kz hS12
                clear R_b_12 c_b_0_12 c_b_1_12 c_b_2_12 c_b_3_12 c_b_4_12 c_b_5_12 R_p_12 c_p_0_12 c_p_1_12 c_p_2_12 R_f_12 c_f_0_12 c_f_1_12 c_f_2_12 R_q_12 R_m_12 R_g_12 c_g_0_12 c_g_1_12 c_g_2_12 z_g_0_12 z_g_1_12 z_g_2_12 hb12 hw12
                refine AnyJ.one (i := 8) (by kernel_rfl) rfl (fun Kz hKz => ?_)
                go_simp
                have hP14 := put_all R_g_13 [.int .i64 4, .int .i64 0, .slice (some ⟨(w10.heap.size), 0, none⟩) 2 2] rfl
                simp only [Go.Proofs.Ytcmodmchnokmgaa.puts, Nat.reduceAdd, Nat.zero_add] at hP14
                obtain ⟨w14, hw14⟩ : ∃ x, (World.setCell (World.setCell (World.setCell w13 ⟨w11.heap.size, 0, none⟩ (.int .i64 4)) ⟨w11.heap.size, 1, none⟩ (.int .i64 0)) ⟨w11.heap.size, 2, none⟩ (.slice (some ⟨(w10.heap.size), 0, none⟩) 2 2)) = x := ⟨_, rfl⟩
                rw [hw14] at hP14 ⊢
                obtain ⟨hR14, hC14⟩ := hP14
                have R_b_14 := R_b_13.ch hC14 (by omega)
                have c_b_0_14 := R_b_14.cell 0 rfl
                have c_b_1_14 := R_b_14.cell 1 rfl
                have c_b_2_14 := R_b_14.cell 2 rfl
                have c_b_3_14 := R_b_14.cell 3 rfl
                have c_b_4_14 := R_b_14.cell 4 rfl
                have c_b_5_14 := R_b_14.cell 5 rfl
                have l_b_14 := R_b_14.lt
                have R_p_14 := R_p_13.ch hC14 (by omega)
                have c_p_0_14 := R_p_14.cell 0 rfl
                have c_p_1_14 := R_p_14.cell 1 rfl
                have c_p_2_14 := R_p_14.cell 2 rfl
                have l_p_14 := R_p_14.lt
                have R_f_14 := R_f_13.ch hC14 (by omega)
                have c_f_0_14 := R_f_14.cell 0 rfl
                have c_f_1_14 := R_f_14.cell 1 rfl
                have c_f_2_14 := R_f_14.cell 2 rfl
                have l_f_14 := R_f_14.lt
                have R_q_14 := R_q_13.ch hC14 (by omega)
                have l_q_14 := R_q_14.lt
                have R_m_14 := R_m_13.ch hC14 (by omega)
                have l_m_14 := R_m_14.lt
                have R_g_14 := hR14
                have c_g_0_14 := R_g_14.cell 0 rfl
                have c_g_1_14 := R_g_14.cell 1 rfl
                have c_g_2_14 := R_g_14.cell 2 rfl
                have z_g_0_14 := R_g_14.frozen 0
                have z_g_1_14 := R_g_14.frozen 1
                have z_g_2_14 := R_g_14.frozen 2
                have l_g_14 := R_g_14.lt
                have HB14 : Below w.heap.size w w14 := hC14.below HB13 (fun k hk => by omega) HB13.size
                have hs14 := hC14.size
                have hz14 := HB14.size
                have hS14 := And.intro c_b_0_14 (And.intro c_b_1_14 (And.intro c_b_2_14 (And.intro c_b_3_14 (And.intro c_b_4_14 (And.intro c_b_5_14 (And.intro c_p_0_14 (And.intro c_p_1_14 (And.intro c_p_2_14 (And.intro c_f_0_14 (And.intro c_f_1_14 (c_f_2_14)))))))))))
                refine hKz _ _ (fun _ => hS14) ?_
                clear hKz Kz hS13
                clear R_b_13 c_b_0_13 c_b_1_13 c_b_2_13 c_b_3_13 c_b_4_13 c_b_5_13 R_p_13 c_p_0_13 c_p_1_13 c_p_2_13 R_f_13 c_f_0_13 c_f_1_13 c_f_2_13 R_q_13 R_m_13 R_g_13 c_g_0_13 c_g_1_13 c_g_2_13 z_g_0_13 z_g_1_13 z_g_2_13 hb13
                refine AnyJ.done (by kernel_rfl) ?_ _
                clear hS14
                try simp only [Act.put, List.setIfInBounds_toArray, List.set_cons_zero, List.set_cons_succ]
                go_wp2_with fail
                go_meet
                exact ⟨w11.heap.size, w10.heap.size, w8.heap.size, rfl, R_g_14, R_m_14, R_q_14, R_b_14, R_p_14, R_f_14, HB14⟩
            ·
              go_simp
              generalize hw11 : World.alloc w10 _ = w11
              have hb11 : Below w10.heap.size w10 w11 := by rw [← hw11]; exact (Below.refl _ _).alloc (Nat.le_refl _) _
              have R_b_11 := R_b_10.step hb11
              have c_b_0_11 := R_b_11.cell 0 rfl
              have c_b_1_11 := R_b_11.cell 1 rfl
              have c_b_2_11 := R_b_11.cell 2 rfl
              have c_b_3_11 := R_b_11.cell 3 rfl
              have c_b_4_11 := R_b_11.cell 4 rfl
              have c_b_5_11 := R_b_11.cell 5 rfl
              have l_b_11 := R_b_11.lt
              have R_p_11 := R_p_10.step hb11
              have c_p_0_11 := R_p_11.cell 0 rfl
              have c_p_1_11 := R_p_11.cell 1 rfl
              have c_p_2_11 := R_p_11.cell 2 rfl
              have l_p_11 := R_p_11.lt
              have R_f_11 := R_f_10.step hb11
              have c_f_0_11 := R_f_11.cell 0 rfl
              have c_f_1_11 := R_f_11.cell 1 rfl
              have c_f_2_11 := R_f_11.cell 2 rfl
              have l_f_11 := R_f_11.lt
              have R_q_11 := R_q_10.step hb11
              have l_q_11 := R_q_11.lt
              have R_g_11 : Row w11 (w10.heap.size) [.int .i64 0, .int .i64 0, .slice none 0 0] := by rw [← hw11]; exact Row.new' _ _ _ rfl
              have c_g_0_11 := R_g_11.cell 0 rfl
              have c_g_1_11 := R_g_11.cell 1 rfl
              have c_g_2_11 := R_g_11.cell 2 rfl
              have z_g_0_11 := R_g_11.frozen 0
              have z_g_1_11 := R_g_11.frozen 1
              have z_g_2_11 := R_g_11.frozen 2
              have l_g_11 := R_g_11.lt
              have HB11 := HB10.trans (hb11.mono HB10.size)
              have hs11 := hb11.size
              have hz11 := HB11.size
              have hS11 := And.intro c_b_0_11 (And.intro c_b_1_11 (And.intro c_b_2_11 (And.intro c_b_3_11 (And.intro c_b_4_11 (And.intro c_b_5_11 (And.intro c_p_0_11 (And.intro c_p_1_11 (And.intro c_p_2_11 (And.intro c_f_0_11 (And.intro c_f_1_11 (c_f_2_11)))))))))))
              refine hKz _ _ (fun _ => hS11) ?_
              clear hKz Kz hS10
              clear R_b_10 c_b_0_10 c_b_1_10 c_b_2_10 c_b_3_10 c_b_4_10 c_b_5_10 R_p_10 c_p_0_10 c_p_1_10 c_p_2_10 R_f_10 c_f_0_10 c_f_1_10 c_f_2_10 R_q_10 hb10
              refine AnyJ.one (i := 5) (by kernel_rfl) rfl (fun Kz hKz => ?_)
              go_simp
              generalize hw12 : World.alloc w11 _ = w12
              have hb12 : Below w11.heap.size w11 w12 := by rw [← hw12]; exact (Below.refl _ _).alloc (Nat.le_refl _) _
              have R_b_12 := R_b_11.step hb12
              have c_b_0_12 := R_b_12.cell 0 rfl
              have c_b_1_12 := R_b_12.cell 1 rfl
              have c_b_2_12 := R_b_12.cell 2 rfl
              have c_b_3_12 := R_b_12.cell 3 rfl
              have c_b_4_12 := R_b_12.cell 4 rfl
              have c_b_5_12 := R_b_12.cell 5 rfl
              have l_b_12 := R_b_12.lt
              have R_p_12 := R_p_11.step hb12
              have c_p_0_12 := R_p_12.cell 0 rfl
              have c_p_1_12 := R_p_12.cell 1 rfl
              have c_p_2_12 := R_p_12.cell 2 rfl
              have l_p_12 := R_p_12.lt
              have R_f_12 := R_f_11.step hb12
              have c_f_0_12 := R_f_12.cell 0 rfl
              have c_f_1_12 := R_f_12.cell 1 rfl
              have c_f_2_12 := R_f_12.cell 2 rfl
              have l_f_12 := R_f_12.lt
              have R_q_12 := R_q_11.step hb12
              have l_q_12 := R_q_12.lt
              have R_g_12 := R_g_11.step hb12
              have c_g_0_12 := R_g_12.cell 0 rfl
              have c_g_1_12 := R_g_12.cell 1 rfl
              have c_g_2_12 := R_g_12.cell 2 rfl
              have z_g_0_12 := R_g_12.frozen 0
              have z_g_1_12 := R_g_12.frozen 1
              have z_g_2_12 := R_g_12.frozen 2
              have l_g_12 := R_g_12.lt
              have R_m_12 : Row w12 (w11.heap.size) [.int .i64 2, .int .i64 10000, .slice none 0 0, .int .i64 6, .int .i64 0, .slice (some ⟨(w8.heap.size), 0, none⟩) 2 2] := by rw [← hw12]; exact Row.new' _ _ _ rfl
              have l_m_12 := R_m_12.lt
              have HB12 := HB11.trans (hb12.mono HB11.size)
              have hs12 := hb12.size
              have hz12 := HB12.size
              have hS12 := And.intro c_b_0_12 (And.intro c_b_1_12 (And.intro c_b_2_12 (And.intro c_b_3_12 (And.intro c_b_4_12 (And.intro c_b_5_12 (And.intro c_p_0_12 (And.intro c_p_1_12 (And.intro c_p_2_12 (And.intro c_f_0_12 (And.intro c_f_1_12 (c_f_2_12)))))))))))
              refine hKz _ _ (fun _ => hS12) ?_
              clear hKz Kz hS11
              clear R_b_11 c_b_0_11 c_b_1_11 c_b_2_11 c_b_3_11 c_b_4_11 c_b_5_11 R_p_11 c_p_0_11 c_p_1_11 c_p_2_11 R_f_11 c_f_0_11 c_f_1_11 c_f_2_11 R_q_11 R_g_11 c_g_0_11 c_g_1_11 c_g_2_11 z_g_0_11 z_g_1_11 z_g_2_11 hb11 hw11
              refine AnyJ.one (i := 6) (by kernel_rfl) rfl (fun Kz hKz => ?_)
              go_simp
              refine (node_any 4 _ 2 2 _).mono ?_
              rintro e w13 ⟨rfl, hb13⟩
              have R_b_13 := R_b_12.step hb13
              have c_b_0_13 := R_b_13.cell 0 rfl
              have c_b_1_13 := R_b_13.cell 1 rfl
              have c_b_2_13 := R_b_13.cell 2 rfl
              have c_b_3_13 := R_b_13.cell 3 rfl
              have c_b_4_13 := R_b_13.cell 4 rfl
              have c_b_5_13 := R_b_13.cell 5 rfl
              have l_b_13 := R_b_13.lt
              have R_p_13 := R_p_12.step hb13
              have c_p_0_13 := R_p_13.cell 0 rfl
              have c_p_1_13 := R_p_13.cell 1 rfl
              have c_p_2_13 := R_p_13.cell 2 rfl
              have l_p_13 := R_p_13.lt
              have R_f_13 := R_f_12.step hb13
              have c_f_0_13 := R_f_13.cell 0 rfl
              have c_f_1_13 := R_f_13.cell 1 rfl
              have c_f_2_13 := R_f_13.cell 2 rfl
              have l_f_13 := R_f_13.lt
              have R_q_13 := R_q_12.step hb13
              have l_q_13 := R_q_13.lt
              have R_g_13 := R_g_12.step hb13
              have c_g_0_13 := R_g_13.cell 0 rfl
              have c_g_1_13 := R_g_13.cell 1 rfl
              have c_g_2_13 := R_g_13.cell 2 rfl
              have z_g_0_13 := R_g_13.frozen 0
              have z_g_1_13 := R_g_13.frozen 1
              have z_g_2_13 := R_g_13.frozen 2
              have l_g_13 := R_g_13.lt
              have R_m_13 := R_m_12.step hb13
              have l_m_13 := R_m_13.lt
              have HB13 := HB12.trans (hb13.mono HB12.size)
              have hz13 := HB13.size
              have hS13 := And.intro c_b_0_13 (And.intro c_b_1_13 (And.intro c_b_2_13 (And.intro c_b_3_13 (And.intro c_b_4_13 (And.intro c_b_5_13 (And.intro c_p_0_13 (And.intro c_p_1_13 (And.intro c_p_2_13 (And.intro c_f_0_13 (And.intro c_f_1_13 (c_f_2_13)))))))))))
              refine hKz _ _ (fun _ => hS13) ?_
              clear hKz Kz hS12
              clear R_b_12 c_b_0_12 c_b_1_12 c_b_2_12 c_b_3_12 c_b_4_12 c_b_5_12 R_p_12 c_p_0_12 c_p_1_12 c_p_2_12 R_f_12 c_f_0_12 c_f_1_12 c_f_2_12 R_q_12 R_g_12 c_g_0_12 c_g_1_12 c_g_2_12 z_g_0_12 z_g_1_12 z_g_2_12 R_m_12 hb12 hw12
              refine AnyJ.one (i := 8) (by kernel_rfl) rfl (fun Kz hKz => ?_)
              go_simp
              have hP14 := put_all R_g_13 [.int .i64 4, .int .i64 0, .slice (some ⟨(w11.heap.size), 0, none⟩) 2 2] rfl
              simp only [Go.Proofs.Ytcmodmchnokmgaa.puts, Nat.reduceAdd, Nat.zero_add] at hP14
              obtain ⟨w14, hw14⟩ : ∃ x, (World.setCell (World.setCell (World.setCell w13 ⟨w10.heap.size, 0, none⟩ (.int .i64 4)) ⟨w10.heap.size, 1, none⟩ (.int .i64 0)) ⟨w10.heap.size, 2, none⟩ (.slice (some ⟨(w11.heap.size), 0, none⟩) 2 2)) = x := ⟨_, rfl⟩
              rw [hw14] at hP14 ⊢
              obtain ⟨hR14, hC14⟩ := hP14
              have R_b_14 := R_b_13.ch hC14 (by omega)
              have c_b_0_14 := R_b_14.cell 0 rfl
              have c_b_1_14 := R_b_14.cell 1 rfl
              have c_b_2_14 := R_b_14.cell 2 rfl
              have c_b_3_14 := R_b_14.cell 3 rfl
              have c_b_4_14 := R_b_14.cell 4 rfl
              have c_b_5_14 := R_b_14.cell 5 rfl
              have l_b_14 := R_b_14.lt
              have R_p_14 := R_p_13.ch hC14 (by omega)
              have c_p_0_14 := R_p_14.cell 0 rfl
              have c_p_1_14 := R_p_14.cell 1 rfl
              have c_p_2_14 := R_p_14.cell 2 rfl
              have l_p_14 := R_p_14.lt
              have R_f_14 := R_f_13.ch hC14 (by omega)
              have c_f_0_14 := R_f_14.cell 0 rfl
              have c_f_1_14 := R_f_14.cell 1 rfl
              have c_f_2_14 := R_f_14.cell 2 rfl
              have l_f_14 := R_f_14.lt
              have R_q_14 := R_q_13.ch hC14 (by omega)
              have l_q_14 := R_q_14.lt
              have R_g_14 := hR14
              have c_g_0_14 := R_g_14.cell 0 rfl
              have c_g_1_14 := R_g_14.cell 1 rfl
              have c_g_2_14 := R_g_14.cell 2 rfl
              have z_g_0_14 := R_g_14.frozen 0
              have z_g_1_14 := R_g_14.frozen 1
              have z_g_2_14 := R_g_14.frozen 2
              have l_g_14 := R_g_14.lt
              have R_m_14 := R_m_13.ch hC14 (by omega)
              have l_m_14 := R_m_14.lt
              have HB14 : Below w.heap.size w w14 := hC14.below HB13 (fun k hk => by omega) HB13.size
              have hs14 := hC14.size
              have hz14 := HB14.size
              have hS14 := And.intro c_b_0_14 (And.intro c_b_1_14 (And.intro c_b_2_14 (And.intro c_b_3_14 (And.intro c_b_4_14 (And.intro c_b_5_14 (And.intro c_p_0_14 (And.intro c_p_1_14 (And.intro c_p_2_14 (And.intro c_f_0_14 (And.intro c_f_1_14 (c_f_2_14)))))))))))
              refine hKz _ _ (fun _ => hS14) ?_
              clear hKz Kz hS13
              clear R_b_13 c_b_0_13 c_b_1_13 c_b_2_13 c_b_3_13 c_b_4_13 c_b_5_13 R_p_13 c_p_0_13 c_p_1_13 c_p_2_13 R_f_13 c_f_0_13 c_f_1_13 c_f_2_13 R_q_13 R_g_13 c_g_0_13 c_g_1_13 c_g_2_13 z_g_0_13 z_g_1_13 z_g_2_13 R_m_13 hb13
              refine AnyJ.done (by kernel_rfl) ?_ _
              clear hS14
              try simp only [Act.put, List.setIfInBounds_toArray, List.set_cons_zero, List.set_cons_succ]
              go_wp2_with fail
              go_meet
              exact ⟨w10.heap.size, w11.heap.size, w8.heap.size, rfl, R_g_14, R_m_14, R_q_14, R_b_14, R_p_14, R_f_14, HB14⟩
          ·
            go_simp
            generalize hw10 : World.alloc w9 _ = w10
            have hb10 : Below w9.heap.size w9 w10 := by rw [← hw10]; exact (Below.refl _ _).alloc (Nat.le_refl _) _
            have R_b_10 := R_b_9.step hb10
            have c_b_0_10 := R_b_10.cell 0 rfl
            have c_b_1_10 := R_b_10.cell 1 rfl
            have c_b_2_10 := R_b_10.cell 2 rfl
            have c_b_3_10 := R_b_10.cell 3 rfl
            have c_b_4_10 := R_b_10.cell 4 rfl
            have c_b_5_10 := R_b_10.cell 5 rfl
            have l_b_10 := R_b_10.lt
            have R_p_10 := R_p_9.step hb10
            have c_p_0_10 := R_p_10.cell 0 rfl
            have c_p_1_10 := R_p_10.cell 1 rfl
            have c_p_2_10 := R_p_10.cell 2 rfl
            have l_p_10 := R_p_10.lt
            have R_f_10 := R_f_9.step hb10
            have c_f_0_10 := R_f_10.cell 0 rfl
            have c_f_1_10 := R_f_10.cell 1 rfl
            have c_f_2_10 := R_f_10.cell 2 rfl
            have l_f_10 := R_f_10.lt
            have R_q_10 := R_q_9.step hb10
            have l_q_10 := R_q_10.lt
            have R_g_10 : Row w10 (w9.heap.size) [.int .i64 0, .int .i64 0, .slice none 0 0] := by rw [← hw10]; exact Row.new' _ _ _ rfl
            have c_g_0_10 := R_g_10.cell 0 rfl
            have c_g_1_10 := R_g_10.cell 1 rfl
            have c_g_2_10 := R_g_10.cell 2 rfl
            have z_g_0_10 := R_g_10.frozen 0
            have z_g_1_10 := R_g_10.frozen 1
            have z_g_2_10 := R_g_10.frozen 2
            have l_g_10 := R_g_10.lt
            have HB10 := HB9.trans (hb10.mono HB9.size)
            have hs10 := hb10.size
            have hz10 := HB10.size
            have hS10 := And.intro c_b_0_10 (And.intro c_b_1_10 (And.intro c_b_2_10 (And.intro c_b_3_10 (And.intro c_b_4_10 (And.intro c_b_5_10 (And.intro c_p_0_10 (And.intro c_p_1_10 (And.intro c_p_2_10 (And.intro c_f_0_10 (And.intro c_f_1_10 (c_f_2_10)))))))))))
            refine hKz _ _ (fun _ => hS10) ?_
            clear hKz Kz hS9
            clear R_b_9 c_b_0_9 c_b_1_9 c_b_2_9 c_b_3_9 c_b_4_9 c_b_5_9 R_p_9 c_p_0_9 c_p_1_9 c_p_2_9 R_f_9 c_f_0_9 c_f_1_9 c_f_2_9 R_q_9 hb9 hw9
            refine AnyJ.one (i := 4) (by kernel_rfl) rfl (fun Kz hKz => ?_)
            go_simp
            refine (node_any 6 _ 2 2 _).mono ?_
            rintro e w11 ⟨rfl, hb11⟩
            have R_b_11 := R_b_10.step hb11
            have c_b_0_11 := R_b_11.cell 0 rfl
            have c_b_1_11 := R_b_11.cell 1 rfl
            have c_b_2_11 := R_b_11.cell 2 rfl
            have c_b_3_11 := R_b_11.cell 3 rfl
            have c_b_4_11 := R_b_11.cell 4 rfl
            have c_b_5_11 := R_b_11.cell 5 rfl
            have l_b_11 := R_b_11.lt
            have R_p_11 := R_p_10.step hb11
            have c_p_0_11 := R_p_11.cell 0 rfl
            have c_p_1_11 := R_p_11.cell 1 rfl
            have c_p_2_11 := R_p_11.cell 2 rfl
            have l_p_11 := R_p_11.lt
            have R_f_11 := R_f_10.step hb11
            have c_f_0_11 := R_f_11.cell 0 rfl
            have c_f_1_11 := R_f_11.cell 1 rfl
            have c_f_2_11 := R_f_11.cell 2 rfl
            have l_f_11 := R_f_11.lt
            have R_q_11 := R_q_10.step hb11
            have l_q_11 := R_q_11.lt
            have R_g_11 := R_g_10.step hb11
            have c_g_0_11 := R_g_11.cell 0 rfl
            have c_g_1_11 := R_g_11.cell 1 rfl
            have c_g_2_11 := R_g_11.cell 2 rfl
            have z_g_0_11 := R_g_11.frozen 0
            have z_g_1_11 := R_g_11.frozen 1
            have z_g_2_11 := R_g_11.frozen 2
            have l_g_11 := R_g_11.lt
            have HB11 := HB10.trans (hb11.mono HB10.size)
            have hz11 := HB11.size
            have hS11 := And.intro c_b_0_11 (And.intro c_b_1_11 (And.intro c_b_2_11 (And.intro c_b_3_11 (And.intro c_b_4_11 (And.intro c_b_5_11 (And.intro c_p_0_11 (And.intro c_p_1_11 (And.intro c_p_2_11 (And.intro c_f_0_11 (And.intro c_f_1_11 (c_f_2_11)))))))))))
            refine hKz _ _ (fun _ => hS11) ?_
            clear hKz Kz hS10
            clear R_b_10 c_b_0_10 c_b_1_10 c_b_2_10 c_b_3_10 c_b_4_10 c_b_5_10 R_p_10 c_p_0_10 c_p_1_10 c_p_2_10 R_f_10 c_f_0_10 c_f_1_10 c_f_2_10 R_q_10 R_g_10 c_g_0_10 c_g_1_10 c_g_2_10 z_g_0_10 z_g_1_10 z_g_2_10 hb10 hw10
            refine AnyJ.one (i := 5) (by kernel_rfl) rfl (fun Kz hKz => ?_)
            go_simp
            generalize hw12 : World.alloc w11 _ = w12
            have hb12 : Below w11.heap.size w11 w12 := by rw [← hw12]; exact (Below.refl _ _).alloc (Nat.le_refl _) _
            have R_b_12 := R_b_11.step hb12
            have c_b_0_12 := R_b_12.cell 0 rfl
            have c_b_1_12 := R_b_12.cell 1 rfl
            have c_b_2_12 := R_b_12.cell 2 rfl
            have c_b_3_12 := R_b_12.cell 3 rfl
            have c_b_4_12 := R_b_12.cell 4 rfl
            have c_b_5_12 := R_b_12.cell 5 rfl
            have l_b_12 := R_b_12.lt
            have R_p_12 := R_p_11.step hb12
            have c_p_0_12 := R_p_12.cell 0 rfl
            have c_p_1_12 := R_p_12.cell 1 rfl
            have c_p_2_12 := R_p_12.cell 2 rfl
            have l_p_12 := R_p_12.lt
            have R_f_12 := R_f_11.step hb12
            have c_f_0_12 := R_f_12.cell 0 rfl
            have c_f_1_12 := R_f_12.cell 1 rfl
            have c_f_2_12 := R_f_12.cell 2 rfl
            have l_f_12 := R_f_12.lt
            have R_q_12 := R_q_11.step hb12
            have l_q_12 := R_q_12.lt
            have R_g_12 := R_g_11.step hb12
            have c_g_0_12 := R_g_12.cell 0 rfl
            have c_g_1_12 := R_g_12.cell 1 rfl
            have c_g_2_12 := R_g_12.cell 2 rfl
            have z_g_0_12 := R_g_12.frozen 0
            have z_g_1_12 := R_g_12.frozen 1
            have z_g_2_12 := R_g_12.frozen 2
            have l_g_12 := R_g_12.lt
            have R_m_12 : Row w12 (w11.heap.size) [.int .i64 2, .int .i64 10000, .slice none 0 0, .int .i64 6, .int .i64 0, .slice (some ⟨(w8.heap.size), 0, none⟩) 2 2] := by rw [← hw12]; exact Row.new' _ _ _ rfl
            have l_m_12 := R_m_12.lt
            have HB12 := HB11.trans (hb12.mono HB11.size)
            have hs12 := hb12.size
            have hz12 := HB12.size
            have hS12 := And.intro c_b_0_12 (And.intro c_b_1_12 (And.intro c_b_2_12 (And.intro c_b_3_12 (And.intro c_b_4_12 (And.intro c_b_5_12 (And.intro c_p_0_12 (And.intro c_p_1_12 (And.intro c_p_2_12 (And.intro c_f_0_12 (And.intro c_f_1_12 (c_f_2_12)))))))))))
            refine hKz _ _ (fun _ => hS12) ?_
            clear hKz Kz hS11
            clear R_b_11 c_b_0_11 c_b_1_11 c_b_2_11 c_b_3_11 c_b_4_11 c_b_5_11 R_p_11 c_p_0_11 c_p_1_11 c_p_2_11 R_f_11 c_f_0_11 c_f_1_11 c_f_2_11 R_q_11 R_g_11 c_g_0_11 c_g_1_11 c_g_2_11 z_g_0_11 z_g_1_11 z_g_2_11 hb11
            refine AnyJ.one (i := 6) (by kernel_rfl) rfl (fun Kz hKz => ?_)
            go_simp
            refine (node_any 4 _ 2 2 _).mono ?_
            rintro e w13 ⟨rfl, hb13⟩
            have R_b_13 := R_b_12.step hb13
            have c_b_0_13 := R_b_13.cell 0 rfl
            have c_b_1_13 := R_b_13.cell 1 rfl
            have c_b_2_13 := R_b_13.cell 2 rfl
            have c_b_3_13 := R_b_13.cell 3 rfl
            have c_b_4_13 := R_b_13.cell 4 rfl
            have c_b_5_13 := R_b_13.cell 5 rfl
            have l_b_13 := R_b_13.lt
            have R_p_13 := R_p_12.step hb13
            have c_p_0_13 := R_p_13.cell 0 rfl
            have c_p_1_13 := R_p_13.cell 1 rfl
            have c_p_2_13 := R_p_13.cell 2 rfl
            have l_p_13 := R_p_13.lt
            have R_f_13 := R_f_12.step hb13
            have c_f_0_13 := R_f_13.cell 0 rfl
            have c_f_1_13 := R_f_13.cell 1 rfl
            have c_f_2_13 := R_f_13.cell 2 rfl
            have l_f_13 := R_f_13.lt
            have R_q_13 := R_q_12.step hb13
            have l_q_13 := R_q_13.lt
            have R_g_13 := R_g_12.step hb13
            have c_g_0_13 := R_g_13.cell 0 rfl
            have c_g_1_13 := R_g_13.cell 1 rfl
            have c_g_2_13 := R_g_13.cell 2 rfl
            have z_g_0_13 := R_g_13.frozen 0
            have z_g_1_13 := R_g_13.frozen 1
            have z_g_2_13 := R_g_13.frozen 2
            have l_g_13 := R_g_13.lt
            have R_m_13 := R_m_12.step hb13
            have l_m_13 := R_m_13.lt
            have HB13 := HB12.trans (hb13.mono HB12.size)
            have hz13 := HB13.size
            have hS13 := And.intro c_b_0_13 (And.intro c_b_1_13 (And.intro c_b_2_13 (And.intro c_b_3_13 (And.intro c_b_4_13 (And.intro c_b_5_13 (And.intro c_p_0_13 (And.intro c_p_1_13 (And.intro c_p_2_13 (And.intro c_f_0_13 (And.intro c_f_1_13 (c_f_2_13)))))))))))
            refine hKz _ _ (fun _ => hS13) ?_
            clear hKz Kz hS12
            clear R_b_12 c_b_0_12 c_b_1_12 c_b_2_12 c_b_3_12 c_b_4_12 c_b_5_12 R_p_12 c_p_0_12 c_p_1_12 c_p_2_12 R_f_12 c_f_0_12 c_f_1_12 c_f_2_12 R_q_12 R_g_12 c_g_0_12 c_g_1_12 c_g_2_12 z_g_0_12 z_g_1_12 z_g_2_12 R_m_12 hb12 hw12
            refine AnyJ.one (i := 8) (by kernel_rfl) rfl (fun Kz hKz => ?_)
            go_simp
            have hP14 := put_all R_g_13 [.int .i64 4, .int .i64 0, .slice (some ⟨(w11.heap.size), 0, none⟩) 2 2] rfl
            simp only [Go.Proofs.Ytcmodmchnokmgaa.puts, Nat.reduceAdd, Nat.zero_add] at hP14
            obtain ⟨w14, hw14⟩ : ∃ x, (World.setCell (World.setCell (World.setCell w13 ⟨w9.heap.size, 0, none⟩ (.int .i64 4)) ⟨w9.heap.size, 1, none⟩ (.int .i64 0)) ⟨w9.heap.size, 2, none⟩ (.slice (some ⟨(w11.heap.size), 0, none⟩) 2 2)) = x := ⟨_, rfl⟩
            rw [hw14] at hP14 ⊢
            obtain ⟨hR14, hC14⟩ := hP14
            have R_b_14 := R_b_13.ch hC14 (by omega)
            have c_b_0_14 := R_b_14.cell 0 rfl
            have c_b_1_14 := R_b_14.cell 1 rfl
            have c_b_2_14 := R_b_14.cell 2 rfl
            have c_b_3_14 := R_b_14.cell 3 rfl
            have c_b_4_14 := R_b_14.cell 4 rfl
            have c_b_5_14 := R_b_14.cell 5 rfl
            have l_b_14 := R_b_14.lt
            have R_p_14 := R_p_13.ch hC14 (by omega)
            have c_p_0_14 := R_p_14.cell 0 rfl
            have c_p_1_14 := R_p_14.cell 1 rfl
            have c_p_2_14 := R_p_14.cell 2 rfl
            have l_p_14 := R_p_14.lt
            have R_f_14 := R_f_13.ch hC14 (by omega)
            have c_f_0_14 := R_f_14.cell 0 rfl
            have c_f_1_14 := R_f_14.cell 1 rfl
            have c_f_2_14 := R_f_14.cell 2 rfl
            have l_f_14 := R_f_14.lt
            have R_q_14 := R_q_13.ch hC14 (by omega)
            have l_q_14 := R_q_14.lt
            have R_g_14 := hR14
            have c_g_0_14 := R_g_14.cell 0 rfl
            have c_g_1_14 := R_g_14.cell 1 rfl
            have c_g_2_14 := R_g_14.cell 2 rfl
            have z_g_0_14 := R_g_14.frozen 0
            have z_g_1_14 := R_g_14.frozen 1
            have z_g_2_14 := R_g_14.frozen 2
            have l_g_14 := R_g_14.lt
            have R_m_14 := R_m_13.ch hC14 (by omega)
            have l_m_14 := R_m_14.lt
            have HB14 : Below w.heap.size w w14 := hC14.below HB13 (fun k hk => by omega) HB13.size
            have hs14 := hC14.size
            have hz14 := HB14.size
            have hS14 := And.intro c_b_0_14 (And.intro c_b_1_14 (And.intro c_b_2_14 (And.intro c_b_3_14 (And.intro c_b_4_14 (And.intro c_b_5_14 (And.intro c_p_0_14 (And.intro c_p_1_14 (And.intro c_p_2_14 (And.intro c_f_0_14 (And.intro c_f_1_14 (c_f_2_14)))))))))))
            refine hKz _ _ (fun _ => hS14) ?_
            clear hKz Kz hS13
            clear R_b_13 c_b_0_13 c_b_1_13 c_b_2_13 c_b_3_13 c_b_4_13 c_b_5_13 R_p_13 c_p_0_13 c_p_1_13 c_p_2_13 R_f_13 c_f_0_13 c_f_1_13 c_f_2_13 R_q_13 R_g_13 c_g_0_13 c_g_1_13 c_g_2_13 z_g_0_13 z_g_1_13 z_g_2_13 R_m_13 hb13
            refine AnyJ.done (by kernel_rfl) ?_ _
            clear hS14
            try simp only [Act.put, List.setIfInBounds_toArray, List.set_cons_zero, List.set_cons_succ]
            go_wp2_with fail
            go_meet
            exact ⟨w9.heap.size, w11.heap.size, w8.heap.size, rfl, R_g_14, R_m_14, R_q_14, R_b_14, R_p_14, R_f_14, HB14⟩
        ·
          go_simp
          generalize hw9 : World.alloc w8 _ = w9
          have hb9 : Below w8.heap.size w8 w9 := by rw [← hw9]; exact (Below.refl _ _).alloc (Nat.le_refl _) _
          have R_b_9 := R_b_8.step hb9
          have c_b_0_9 := R_b_9.cell 0 rfl
          have c_b_1_9 := R_b_9.cell 1 rfl
          have c_b_2_9 := R_b_9.cell 2 rfl
          have c_b_3_9 := R_b_9.cell 3 rfl
          have c_b_4_9 := R_b_9.cell 4 rfl
          have c_b_5_9 := R_b_9.cell 5 rfl
          have l_b_9 := R_b_9.lt
          have R_p_9 := R_p_8.step hb9
          have c_p_0_9 := R_p_9.cell 0 rfl
          have c_p_1_9 := R_p_9.cell 1 rfl
          have c_p_2_9 := R_p_9.cell 2 rfl
          have l_p_9 := R_p_9.lt
          have R_f_9 := R_f_8.step hb9
          have c_f_0_9 := R_f_9.cell 0 rfl
          have c_f_1_9 := R_f_9.cell 1 rfl
          have c_f_2_9 := R_f_9.cell 2 rfl
          have l_f_9 := R_f_9.lt
          have R_g_9 : Row w9 (w8.heap.size) [.int .i64 0, .int .i64 0, .slice none 0 0] := by rw [← hw9]; exact Row.new' _ _ _ rfl
          have c_g_0_9 := R_g_9.cell 0 rfl
          have c_g_1_9 := R_g_9.cell 1 rfl
          have c_g_2_9 := R_g_9.cell 2 rfl
          have z_g_0_9 := R_g_9.frozen 0
          have z_g_1_9 := R_g_9.frozen 1
          have z_g_2_9 := R_g_9.frozen 2
          have l_g_9 := R_g_9.lt
          have HB9 := HB8.trans (hb9.mono HB8.size)
          have hs9 := hb9.size
          have hz9 := HB9.size
          have hS9 := And.intro c_b_0_9 (And.intro c_b_1_9 (And.intro c_b_2_9 (And.intro c_b_3_9 (And.intro c_b_4_9 (And.intro c_b_5_9 (And.intro c_p_0_9 (And.intro c_p_1_9 (And.intro c_p_2_9 (And.intro c_f_0_9 (And.intro c_f_1_9 (c_f_2_9)))))))))))
          refine hKz _ _ (fun _ => hS9) ?_
          clear hKz Kz hS8
          clear R_b_8 c_b_0_8 c_b_1_8 c_b_2_8 c_b_3_8 c_b_4_8 c_b_5_8 R_p_8 c_p_0_8 c_p_1_8 c_p_2_8 R_f_8 c_f_0_8 c_f_1_8 c_f_2_8 hb8
          refine AnyJ.one (i := 3) (by kernel_rfl) rfl (fun Kz hKz => ?_)
          go_simp
          generalize hw10 : World.alloc w9 _ = w10
          have hb10 : Below w9.heap.size w9 w10 := by rw [← hw10]; exact (Below.refl _ _).alloc (Nat.le_refl _) _
          have R_b_10 := R_b_9.step hb10
          have c_b_0_10 := R_b_10.cell 0 rfl
          have c_b_1_10 := R_b_10.cell 1 rfl
          have c_b_2_10 := R_b_10.cell 2 rfl
          have c_b_3_10 := R_b_10.cell 3 rfl
          have c_b_4_10 := R_b_10.cell 4 rfl
          have c_b_5_10 := R_b_10.cell 5 rfl
          have l_b_10 := R_b_10.lt
          have R_p_10 := R_p_9.step hb10
          have c_p_0_10 := R_p_10.cell 0 rfl
          have c_p_1_10 := R_p_10.cell 1 rfl
          have c_p_2_10 := R_p_10.cell 2 rfl
          have l_p_10 := R_p_10.lt
          have R_f_10 := R_f_9.step hb10
          have c_f_0_10 := R_f_10.cell 0 rfl
          have c_f_1_10 := R_f_10.cell 1 rfl
          have c_f_2_10 := R_f_10.cell 2 rfl
          have l_f_10 := R_f_10.lt
          have R_g_10 := R_g_9.step hb10
          have c_g_0_10 := R_g_10.cell 0 rfl
          have c_g_1_10 := R_g_10.cell 1 rfl
          have c_g_2_10 := R_g_10.cell 2 rfl
          have z_g_0_10 := R_g_10.frozen 0
          have z_g_1_10 := R_g_10.frozen 1
          have z_g_2_10 := R_g_10.frozen 2
          have l_g_10 := R_g_10.lt
          have R_q_10 : Row w10 (w9.heap.size) [.int .i64 2, .int .i64 2000, .slice none 0 0, .int .i64 3, .int .i64 2, .slice none 0 0] := by rw [← hw10]; exact Row.new' _ _ _ rfl
          have l_q_10 := R_q_10.lt
          have HB10 := HB9.trans (hb10.mono HB9.size)
          have hs10 := hb10.size
          have hz10 := HB10.size
          have hS10 := And.intro c_b_0_10 (And.intro c_b_1_10 (And.intro c_b_2_10 (And.intro c_b_3_10 (And.intro c_b_4_10 (And.intro c_b_5_10 (And.intro c_p_0_10 (And.intro c_p_1_10 (And.intro c_p_2_10 (And.intro c_f_0_10 (And.intro c_f_1_10 (c_f_2_10)))))))))))
          refine hKz _ _ (fun _ => hS10) ?_
          clear hKz Kz hS9
          clear R_b_9 c_b_0_9 c_b_1_9 c_b_2_9 c_b_3_9 c_b_4_9 c_b_5_9 R_p_9 c_p_0_9 c_p_1_9 c_p_2_9 R_f_9 c_f_0_9 c_f_1_9 c_f_2_9 R_g_9 c_g_0_9 c_g_1_9 c_g_2_9 z_g_0_9 z_g_1_9 z_g_2_9 hb9 hw9
          refine AnyJ.one (i := 4) (by kernel_rfl) rfl (fun Kz hKz => ?_)
          go_simp
          refine (node_any 6 _ 2 2 _).mono ?_
          rintro e w11 ⟨rfl, hb11⟩
          have R_b_11 := R_b_10.step hb11
          have c_b_0_11 := R_b_11.cell 0 rfl
          have c_b_1_11 := R_b_11.cell 1 rfl
          have c_b_2_11 := R_b_11.cell 2 rfl
          have c_b_3_11 := R_b_11.cell 3 rfl
          have c_b_4_11 := R_b_11.cell 4 rfl
          have c_b_5_11 := R_b_11.cell 5 rfl
          have l_b_11 := R_b_11.lt
          have R_p_11 := R_p_10.step hb11
          have c_p_0_11 := R_p_11.cell 0 rfl
          have c_p_1_11 := R_p_11.cell 1 rfl
          have c_p_2_11 := R_p_11.cell 2 rfl
          have l_p_11 := R_p_11.lt
          have R_f_11 := R_f_10.step hb11
          have c_f_0_11 := R_f_11.cell 0 rfl
          have c_f_1_11 := R_f_11.cell 1 rfl
          have c_f_2_11 := R_f_11.cell 2 rfl
          have l_f_11 := R_f_11.lt
          have R_g_11 := R_g_10.step hb11
          have c_g_0_11 := R_g_11.cell 0 rfl
          have c_g_1_11 := R_g_11.cell 1 rfl
          have c_g_2_11 := R_g_11.cell 2 rfl
          have z_g_0_11 := R_g_11.frozen 0
          have z_g_1_11 := R_g_11.frozen 1
          have z_g_2_11 := R_g_11.frozen 2
          have l_g_11 := R_g_11.lt
          have R_q_11 := R_q_10.step hb11
          have l_q_11 := R_q_11.lt
          have HB11 := HB10.trans (hb11.mono HB10.size)
          have hz11 := HB11.size
          have hS11 := And.intro c_b_0_11 (And.intro c_b_1_11 (And.intro c_b_2_11 (And.intro c_b_3_11 (And.intro c_b_4_11 (And.intro c_b_5_11 (And.intro c_p_0_11 (And.intro c_p_1_11 (And.intro c_p_2_11 (And.intro c_f_0_11 (And.intro c_f_1_11 (c_f_2_11)))))))))))
          refine hKz _ _ (fun _ => hS11) ?_
          clear hKz Kz hS10
          clear R_b_10 c_b_0_10 c_b_1_10 c_b_2_10 c_b_3_10 c_b_4_10 c_b_5_10 R_p_10 c_p_0_10 c_p_1_10 c_p_2_10 R_f_10 c_f_0_10 c_f_1_10 c_f_2_10 R_g_10 c_g_0_10 c_g_1_10 c_g_2_10 z_g_0_10 z_g_1_10 z_g_2_10 R_q_10 hb10 hw10
          refine AnyJ.one (i := 5) (by kernel_rfl) rfl (fun Kz hKz => ?_)
          go_simp
          generalize hw12 : World.alloc w11 _ = w12
          have hb12 : Below w11.heap.size w11 w12 := by rw [← hw12]; exact (Below.refl _ _).alloc (Nat.le_refl _) _
          have R_b_12 := R_b_11.step hb12
          have c_b_0_12 := R_b_12.cell 0 rfl
          have c_b_1_12 := R_b_12.cell 1 rfl
          have c_b_2_12 := R_b_12.cell 2 rfl
          have c_b_3_12 := R_b_12.cell 3 rfl
          have c_b_4_12 := R_b_12.cell 4 rfl
          have c_b_5_12 := R_b_12.cell 5 rfl
          have l_b_12 := R_b_12.lt
          have R_p_12 := R_p_11.step hb12
          have c_p_0_12 := R_p_12.cell 0 rfl
          have c_p_1_12 := R_p_12.cell 1 rfl
          have c_p_2_12 := R_p_12.cell 2 rfl
          have l_p_12 := R_p_12.lt
          have R_f_12 := R_f_11.step hb12
          have c_f_0_12 := R_f_12.cell 0 rfl
          have c_f_1_12 := R_f_12.cell 1 rfl
          have c_f_2_12 := R_f_12.cell 2 rfl
          have l_f_12 := R_f_12.lt
          have R_g_12 := R_g_11.step hb12
          have c_g_0_12 := R_g_12.cell 0 rfl
          have c_g_1_12 := R_g_12.cell 1 rfl
          have c_g_2_12 := R_g_12.cell 2 rfl
          have z_g_0_12 := R_g_12.frozen 0
          have z_g_1_12 := R_g_12.frozen 1
          have z_g_2_12 := R_g_12.frozen 2
          have l_g_12 := R_g_12.lt
          have R_q_12 := R_q_11.step hb12
          have l_q_12 := R_q_12.lt
          have R_m_12 : Row w12 (w11.heap.size) [.int .i64 2, .int .i64 10000, .slice none 0 0, .int .i64 6, .int .i64 0, .slice (some ⟨(w9.heap.size), 0, none⟩) 2 2] := by rw [← hw12]; exact Row.new' _ _ _ rfl
          have l_m_12 := R_m_12.lt
          have HB12 := HB11.trans (hb12.mono HB11.size)
          have hs12 := hb12.size
          have hz12 := HB12.size
          have hS12 := And.intro c_b_0_12 (And.intro c_b_1_12 (And.intro c_b_2_12 (And.intro c_b_3_12 (And.intro c_b_4_12 (And.intro c_b_5_12 (And.intro c_p_0_12 (And.intro c_p_1_12 (And.intro c_p_2_12 (And.intro c_f_0_12 (And.intro c_f_1_12 (c_f_2_12)))))))))))
          refine hKz _ _ (fun _ => hS12) ?_
          clear hKz Kz hS11
          clear R_b_11 c_b_0_11 c_b_1_11 c_b_2_11 c_b_3_11 c_b_4_11 c_b_5_11 R_p_11 c_p_0_11 c_p_1_11 c_p_2_11 R_f_11 c_f_0_11 c_f_1_11 c_f_2_11 R_g_11 c_g_0_11 c_g_1_11 c_g_2_11 z_g_0_11 z_g_1_11 z_g_2_11 R_q_11 hb11
          refine AnyJ.one (i := 6) (by kernel_rfl) rfl (fun Kz hKz => ?_)
          go_simp
          refine (node_any 4 _ 2 2 _).mono ?_
          rintro e w13 ⟨rfl, hb13⟩
          have R_b_13 := R_b_12.step hb13
          have c_b_0_13 := R_b_13.cell 0 rfl
          have c_b_1_13 := R_b_13.cell 1 rfl
          have c_b_2_13 := R_b_13.cell 2 rfl
          have c_b_3_13 := R_b_13.cell 3 rfl
          have c_b_4_13 := R_b_13.cell 4 rfl
          have c_b_5_13 := R_b_13.cell 5 rfl
          have l_b_13 := R_b_13.lt
          have R_p_13 := R_p_12.step hb13
          have c_p_0_13 := R_p_13.cell 0 rfl
          have c_p_1_13 := R_p_13.cell 1 rfl
          have c_p_2_13 := R_p_13.cell 2 rfl
          have l_p_13 := R_p_13.lt
          have R_f_13 := R_f_12.step hb13
          have c_f_0_13 := R_f_13.cell 0 rfl
          have c_f_1_13 := R_f_13.cell 1 rfl
          have c_f_2_13 := R_f_13.cell 2 rfl
          have l_f_13 := R_f_13.lt
          have R_g_13 := R_g_12.step hb13
          have c_g_0_13 := R_g_13.cell 0 rfl
          have c_g_1_13 := R_g_13.cell 1 rfl
          have c_g_2_13 := R_g_13.cell 2 rfl
          have z_g_0_13 := R_g_13.frozen 0
          have z_g_1_13 := R_g_13.frozen 1
          have z_g_2_13 := R_g_13.frozen 2
          have l_g_13 := R_g_13.lt
          have R_q_13 := R_q_12.step hb13
          have l_q_13 := R_q_13.lt
          have R_m_13 := R_m_12.step hb13
          have l_m_13 := R_m_13.lt
          have HB13 := HB12.trans (hb13.mono HB12.size)
          have hz13 := HB13.size
          have hS13 := And.intro c_b_0_13 (And.intro c_b_1_13 (And.intro c_b_2_13 (And.intro c_b_3_13 (And.intro c_b_4_13 (And.intro c_b_5_13 (And.intro c_p_0_13 (And.intro c_p_1_13 (And.intro c_p_2_13 (And.intro c_f_0_13 (And.intro c_f_1_13 (c_f_2_13)))))))))))
          refine hKz _ _ (fun _ => hS13) ?_
          clear hKz Kz hS12
          clear R_b_12 c_b_0_12 c_b_1_12 c_b_2_12 c_b_3_12 c_b_4_12 c_b_5_12 R_p_12 c_p_0_12 c_p_1_12 c_p_2_12 R_f_12 c_f_0_12 c_f_1_12 c_f_2_12 R_g_12 c_g_0_12 c_g_1_12 c_g_2_12 z_g_0_12 z_g_1_12 z_g_2_12 R_q_12 R_m_12 hb12 hw12
          refine AnyJ.one (i := 8) (by kernel_rfl) rfl (fun Kz hKz => ?_)
          go_simp
          have hP14 := put_all R_g_13 [.int .i64 4, .int .i64 0, .slice (some ⟨(w11.heap.size), 0, none⟩) 2 2] rfl
          simp only [Go.Proofs.Ytcmodmchnokmgaa.puts, Nat.reduceAdd, Nat.zero_add] at hP14
          obtain ⟨w14, hw14⟩ : ∃ x, (World.setCell (World.setCell (World.setCell w13 ⟨w8.heap.size, 0, none⟩ (.int .i64 4)) ⟨w8.heap.size, 1, none⟩ (.int .i64 0)) ⟨w8.heap.size, 2, none⟩ (.slice (some ⟨(w11.heap.size), 0, none⟩) 2 2)) = x := ⟨_, rfl⟩
          rw [hw14] at hP14 ⊢
          obtain ⟨hR14, hC14⟩ := hP14
          have R_b_14 := R_b_13.ch hC14 (by omega)
          have c_b_0_14 := R_b_14.cell 0 rfl
          have c_b_1_14 := R_b_14.cell 1 rfl
          have c_b_2_14 := R_b_14.cell 2 rfl
          have c_b_3_14 := R_b_14.cell 3 rfl
          have c_b_4_14 := R_b_14.cell 4 rfl
          have c_b_5_14 := R_b_14.cell 5 rfl
          have l_b_14 := R_b_14.lt
          have R_p_14 := R_p_13.ch hC14 (by omega)
          have c_p_0_14 := R_p_14.cell 0 rfl
          have c_p_1_14 := R_p_14.cell 1 rfl
          have c_p_2_14 := R_p_14.cell 2 rfl
          have l_p_14 := R_p_14.lt
          have R_f_14 := R_f_13.ch hC14 (by omega)
          have c_f_0_14 := R_f_14.cell 0 rfl
          have c_f_1_14 := R_f_14.cell 1 rfl
          have c_f_2_14 := R_f_14.cell 2 rfl
          have l_f_14 := R_f_14.lt
          have R_g_14 := hR14
          have c_g_0_14 := R_g_14.cell 0 rfl
          have c_g_1_14 := R_g_14.cell 1 rfl
          have c_g_2_14 := R_g_14.cell 2 rfl
          have z_g_0_14 := R_g_14.frozen 0
          have z_g_1_14 := R_g_14.frozen 1
          have z_g_2_14 := R_g_14.frozen 2
          have l_g_14 := R_g_14.lt
          have R_q_14 := R_q_13.ch hC14 (by omega)
          have l_q_14 := R_q_14.lt
          have R_m_14 := R_m_13.ch hC14 (by omega)
          have l_m_14 := R_m_14.lt
          have HB14 : Below w.heap.size w w14 := hC14.below HB13 (fun k hk => by omega) HB13.size
          have hs14 := hC14.size
          have hz14 := HB14.size
          have hS14 := And.intro c_b_0_14 (And.intro c_b_1_14 (And.intro c_b_2_14 (And.intro c_b_3_14 (And.intro c_b_4_14 (And.intro c_b_5_14 (And.intro c_p_0_14 (And.intro c_p_1_14 (And.intro c_p_2_14 (And.intro c_f_0_14 (And.intro c_f_1_14 (c_f_2_14)))))))))))
          refine hKz _ _ (fun _ => hS14) ?_
          clear hKz Kz hS13
          clear R_b_13 c_b_0_13 c_b_1_13 c_b_2_13 c_b_3_13 c_b_4_13 c_b_5_13 R_p_13 c_p_0_13 c_p_1_13 c_p_2_13 R_f_13 c_f_0_13 c_f_1_13 c_f_2_13 R_g_13 c_g_0_13 c_g_1_13 c_g_2_13 z_g_0_13 z_g_1_13 z_g_2_13 R_q_13 R_m_13 hb13
          refine AnyJ.done (by kernel_rfl) ?_ _
          clear hS14
          try simp only [Act.put, List.setIfInBounds_toArray, List.set_cons_zero, List.set_cons_succ]
          go_wp2_with fail
          go_meet
          exact ⟨w8.heap.size, w11.heap.size, w9.heap.size, rfl, R_g_14, R_m_14, R_q_14, R_b_14, R_p_14, R_f_14, HB14⟩
      ·
        go_simp
        generalize hw8 : World.alloc w7 _ = w8
        have hb8 : Below w7.heap.size w7 w8 := by rw [← hw8]; exact (Below.refl _ _).alloc (Nat.le_refl _) _
        have R_b_8 := R_b_7.step hb8
        have c_b_0_8 := R_b_8.cell 0 rfl
        have c_b_1_8 := R_b_8.cell 1 rfl
        have c_b_2_8 := R_b_8.cell 2 rfl
        have c_b_3_8 := R_b_8.cell 3 rfl
        have c_b_4_8 := R_b_8.cell 4 rfl
        have c_b_5_8 := R_b_8.cell 5 rfl
        have l_b_8 := R_b_8.lt
        have R_p_8 := R_p_7.step hb8
        have c_p_0_8 := R_p_8.cell 0 rfl
        have c_p_1_8 := R_p_8.cell 1 rfl
        have c_p_2_8 := R_p_8.cell 2 rfl
        have l_p_8 := R_p_8.lt
        have R_f_8 := R_f_7.step hb8
        have c_f_0_8 := R_f_8.cell 0 rfl
        have c_f_1_8 := R_f_8.cell 1 rfl
        have c_f_2_8 := R_f_8.cell 2 rfl
        have l_f_8 := R_f_8.lt
        have R_g_8 : Row w8 (w7.heap.size) [.int .i64 0, .int .i64 0, .slice none 0 0] := by rw [← hw8]; exact Row.new' _ _ _ rfl
        have c_g_0_8 := R_g_8.cell 0 rfl
        have c_g_1_8 := R_g_8.cell 1 rfl
        have c_g_2_8 := R_g_8.cell 2 rfl
        have z_g_0_8 := R_g_8.frozen 0
        have z_g_1_8 := R_g_8.frozen 1
        have z_g_2_8 := R_g_8.frozen 2
        have l_g_8 := R_g_8.lt
        have HB8 := HB7.trans (hb8.mono HB7.size)
        have hs8 := hb8.size
        have hz8 := HB8.size
        have hS8 := And.intro c_b_0_8 (And.intro c_b_1_8 (And.intro c_b_2_8 (And.intro c_b_3_8 (And.intro c_b_4_8 (And.intro c_b_5_8 (And.intro c_p_0_8 (And.intro c_p_1_8 (And.intro c_p_2_8 (And.intro c_f_0_8 (And.intro c_f_1_8 (c_f_2_8)))))))))))
        refine hKz _ _ (fun _ => hS8) ?_
        clear hKz Kz hS7
        clear R_b_7 c_b_0_7 c_b_1_7 c_b_2_7 c_b_3_7 c_b_4_7 c_b_5_7 R_p_7 c_p_0_7 c_p_1_7 c_p_2_7 R_f_7 c_f_0_7 c_f_1_7 c_f_2_7 hb7
        refine AnyJ.one (i := 1) (by kernel_rfl) rfl (fun Kz hKz => ?_)
        go_simp
        refine (leaf_any 2 2000 _).mono ?_
        rintro e w9 ⟨rfl, hb9⟩
        have R_b_9 := R_b_8.step hb9
        have c_b_0_9 := R_b_9.cell 0 rfl
        have c_b_1_9 := R_b_9.cell 1 rfl
        have c_b_2_9 := R_b_9.cell 2 rfl
        have c_b_3_9 := R_b_9.cell 3 rfl
        have c_b_4_9 := R_b_9.cell 4 rfl
        have c_b_5_9 := R_b_9.cell 5 rfl
        have l_b_9 := R_b_9.lt
        have R_p_9 := R_p_8.step hb9
        have c_p_0_9 := R_p_9.cell 0 rfl
        have c_p_1_9 := R_p_9.cell 1 rfl
        have c_p_2_9 := R_p_9.cell 2 rfl
        have l_p_9 := R_p_9.lt
        have R_f_9 := R_f_8.step hb9
        have c_f_0_9 := R_f_9.cell 0 rfl
        have c_f_1_9 := R_f_9.cell 1 rfl
        have c_f_2_9 := R_f_9.cell 2 rfl
        have l_f_9 := R_f_9.lt
        have R_g_9 := R_g_8.step hb9
        have c_g_0_9 := R_g_9.cell 0 rfl
        have c_g_1_9 := R_g_9.cell 1 rfl
        have c_g_2_9 := R_g_9.cell 2 rfl
        have z_g_0_9 := R_g_9.frozen 0
        have z_g_1_9 := R_g_9.frozen 1
        have z_g_2_9 := R_g_9.frozen 2
        have l_g_9 := R_g_9.lt
        have HB9 := HB8.trans (hb9.mono HB8.size)
        have hz9 := HB9.size
        have hS9 := And.intro c_b_0_9 (And.intro c_b_1_9 (And.intro c_b_2_9 (And.intro c_b_3_9 (And.intro c_b_4_9 (And.intro c_b_5_9 (And.intro c_p_0_9 (And.intro c_p_1_9 (And.intro c_p_2_9 (And.intro c_f_0_9 (And.intro c_f_1_9 (c_f_2_9)))))))))))
        refine hKz _ _ (fun _ => hS9) ?_
        clear hKz Kz hS8
        clear R_b_8 c_b_0_8 c_b_1_8 c_b_2_8 c_b_3_8 c_b_4_8 c_b_5_8 R_p_8 c_p_0_8 c_p_1_8 c_p_2_8 R_f_8 c_f_0_8 c_f_1_8 c_f_2_8 R_g_8 c_g_0_8 c_g_1_8 c_g_2_8 z_g_0_8 z_g_1_8 z_g_2_8 hb8 hw8
        refine AnyJ.one (i := 3) (by kernel_rfl) rfl (fun Kz hKz => ?_)
        go_simp
        generalize hw10 : World.alloc w9 _ = w10
        have hb10 : Below w9.heap.size w9 w10 := by rw [← hw10]; exact (Below.refl _ _).alloc (Nat.le_refl _) _
        have R_b_10 := R_b_9.step hb10
        have c_b_0_10 := R_b_10.cell 0 rfl
        have c_b_1_10 := R_b_10.cell 1 rfl
        have c_b_2_10 := R_b_10.cell 2 rfl
        have c_b_3_10 := R_b_10.cell 3 rfl
        have c_b_4_10 := R_b_10.cell 4 rfl
        have c_b_5_10 := R_b_10.cell 5 rfl
        have l_b_10 := R_b_10.lt
        have R_p_10 := R_p_9.step hb10
        have c_p_0_10 := R_p_10.cell 0 rfl
        have c_p_1_10 := R_p_10.cell 1 rfl
        have c_p_2_10 := R_p_10.cell 2 rfl
        have l_p_10 := R_p_10.lt
        have R_f_10 := R_f_9.step hb10
        have c_f_0_10 := R_f_10.cell 0 rfl
        have c_f_1_10 := R_f_10.cell 1 rfl
        have c_f_2_10 := R_f_10.cell 2 rfl
        have l_f_10 := R_f_10.lt
        have R_g_10 := R_g_9.step hb10
        have c_g_0_10 := R_g_10.cell 0 rfl
        have c_g_1_10 := R_g_10.cell 1 rfl
        have c_g_2_10 := R_g_10.cell 2 rfl
        have z_g_0_10 := R_g_10.frozen 0
        have z_g_1_10 := R_g_10.frozen 1
        have z_g_2_10 := R_g_10.frozen 2
        have l_g_10 := R_g_10.lt
        have R_q_10 : Row w10 (w9.heap.size) [.int .i64 2, .int .i64 2000, .slice none 0 0, .int .i64 3, .int .i64 2, .slice none 0 0] := by rw [← hw10]; exact Row.new' _ _ _ rfl
        have l_q_10 := R_q_10.lt
        have HB10 := HB9.trans (hb10.mono HB9.size)
        have hs10 := hb10.size
        have hz10 := HB10.size
        have hS10 := And.intro c_b_0_10 (And.intro c_b_1_10 (And.intro c_b_2_10 (And.intro c_b_3_10 (And.intro c_b_4_10 (And.intro c_b_5_10 (And.intro c_p_0_10 (And.intro c_p_1_10 (And.intro c_p_2_10 (And.intro c_f_0_10 (And.intro c_f_1_10 (c_f_2_10)))))))))))
        refine hKz _ _ (fun _ => hS10) ?_
        clear hKz Kz hS9
        clear R_b_9 c_b_0_9 c_b_1_9 c_b_2_9 c_b_3_9 c_b_4_9 c_b_5_9 R_p_9 c_p_0_9 c_p_1_9 c_p_2_9 R_f_9 c_f_0_9 c_f_1_9 c_f_2_9 R_g_9 c_g_0_9 c_g_1_9 c_g_2_9 z_g_0_9 z_g_1_9 z_g_2_9 hb9
        refine AnyJ.one (i := 4) (by kernel_rfl) rfl (fun Kz hKz => ?_)
        go_simp
        refine (node_any 6 _ 2 2 _).mono ?_
        rintro e w11 ⟨rfl, hb11⟩
        have R_b_11 := R_b_10.step hb11
        have c_b_0_11 := R_b_11.cell 0 rfl
        have c_b_1_11 := R_b_11.cell 1 rfl
        have c_b_2_11 := R_b_11.cell 2 rfl
        have c_b_3_11 := R_b_11.cell 3 rfl
        have c_b_4_11 := R_b_11.cell 4 rfl
        have c_b_5_11 := R_b_11.cell 5 rfl
        have l_b_11 := R_b_11.lt
        have R_p_11 := R_p_10.step hb11
        have c_p_0_11 := R_p_11.cell 0 rfl
        have c_p_1_11 := R_p_11.cell 1 rfl
        have c_p_2_11 := R_p_11.cell 2 rfl
        have l_p_11 := R_p_11.lt
        have R_f_11 := R_f_10.step hb11
        have c_f_0_11 := R_f_11.cell 0 rfl
        have c_f_1_11 := R_f_11.cell 1 rfl
        have c_f_2_11 := R_f_11.cell 2 rfl
        have l_f_11 := R_f_11.lt
        have R_g_11 := R_g_10.step hb11
        have c_g_0_11 := R_g_11.cell 0 rfl
        have c_g_1_11 := R_g_11.cell 1 rfl
        have c_g_2_11 := R_g_11.cell 2 rfl
        have z_g_0_11 := R_g_11.frozen 0
        have z_g_1_11 := R_g_11.frozen 1
        have z_g_2_11 := R_g_11.frozen 2
        have l_g_11 := R_g_11.lt
        have R_q_11 := R_q_10.step hb11
        have l_q_11 := R_q_11.lt
        have HB11 := HB10.trans (hb11.mono HB10.size)
        have hz11 := HB11.size
        have hS11 := And.intro c_b_0_11 (And.intro c_b_1_11 (And.intro c_b_2_11 (And.intro c_b_3_11 (And.intro c_b_4_11 (And.intro c_b_5_11 (And.intro c_p_0_11 (And.intro c_p_1_11 (And.intro c_p_2_11 (And.intro c_f_0_11 (And.intro c_f_1_11 (c_f_2_11)))))))))))
        refine hKz _ _ (fun _ => hS11) ?_
        clear hKz Kz hS10
        clear R_b_10 c_b_0_10 c_b_1_10 c_b_2_10 c_b_3_10 c_b_4_10 c_b_5_10 R_p_10 c_p_0_10 c_p_1_10 c_p_2_10 R_f_10 c_f_0_10 c_f_1_10 c_f_2_10 R_g_10 c_g_0_10 c_g_1_10 c_g_2_10 z_g_0_10 z_g_1_10 z_g_2_10 R_q_10 hb10 hw10
        refine AnyJ.one (i := 5) (by kernel_rfl) rfl (fun Kz hKz => ?_)
        go_simp
        generalize hw12 : World.alloc w11 _ = w12
        have hb12 : Below w11.heap.size w11 w12 := by rw [← hw12]; exact (Below.refl _ _).alloc (Nat.le_refl _) _
        have R_b_12 := R_b_11.step hb12
        have c_b_0_12 := R_b_12.cell 0 rfl
        have c_b_1_12 := R_b_12.cell 1 rfl
        have c_b_2_12 := R_b_12.cell 2 rfl
        have c_b_3_12 := R_b_12.cell 3 rfl
        have c_b_4_12 := R_b_12.cell 4 rfl
        have c_b_5_12 := R_b_12.cell 5 rfl
        have l_b_12 := R_b_12.lt
        have R_p_12 := R_p_11.step hb12
        have c_p_0_12 := R_p_12.cell 0 rfl
        have c_p_1_12 := R_p_12.cell 1 rfl
        have c_p_2_12 := R_p_12.cell 2 rfl
        have l_p_12 := R_p_12.lt
        have R_f_12 := R_f_11.step hb12
        have c_f_0_12 := R_f_12.cell 0 rfl
        have c_f_1_12 := R_f_12.cell 1 rfl
        have c_f_2_12 := R_f_12.cell 2 rfl
        have l_f_12 := R_f_12.lt
        have R_g_12 := R_g_11.step hb12
        have c_g_0_12 := R_g_12.cell 0 rfl
        have c_g_1_12 := R_g_12.cell 1 rfl
        have c_g_2_12 := R_g_12.cell 2 rfl
        have z_g_0_12 := R_g_12.frozen 0
        have z_g_1_12 := R_g_12.frozen 1
        have z_g_2_12 := R_g_12.frozen 2
        have l_g_12 := R_g_12.lt
        have R_q_12 := R_q_11.step hb12
        have l_q_12 := R_q_12.lt
        have R_m_12 : Row w12 (w11.heap.size) [.int .i64 2, .int .i64 10000, .slice none 0 0, .int .i64 6, .int .i64 0, .slice (some ⟨(w9.heap.size), 0, none⟩) 2 2] := by rw [← hw12]; exact Row.new' _ _ _ rfl
        have l_m_12 := R_m_12.lt
        have HB12 := HB11.trans (hb12.mono HB11.size)
        have hs12 := hb12.size
        have hz12 := HB12.size
        have hS12 := And.intro c_b_0_12 (And.intro c_b_1_12 (And.intro c_b_2_12 (And.intro c_b_3_12 (And.intro c_b_4_12 (And.intro c_b_5_12 (And.intro c_p_0_12 (And.intro c_p_1_12 (And.intro c_p_2_12 (And.intro c_f_0_12 (And.intro c_f_1_12 (c_f_2_12)))))))))))
        refine hKz _ _ (fun _ => hS12) ?_
        clear hKz Kz hS11
        clear R_b_11 c_b_0_11 c_b_1_11 c_b_2_11 c_b_3_11 c_b_4_11 c_b_5_11 R_p_11 c_p_0_11 c_p_1_11 c_p_2_11 R_f_11 c_f_0_11 c_f_1_11 c_f_2_11 R_g_11 c_g_0_11 c_g_1_11 c_g_2_11 z_g_0_11 z_g_1_11 z_g_2_11 R_q_11 hb11
        refine AnyJ.one (i := 6) (by kernel_rfl) rfl (fun Kz hKz => ?_)
        go_simp
        refine (node_any 4 _ 2 2 _).mono ?_
        rintro e w13 ⟨rfl, hb13⟩
        have R_b_13 := R_b_12.step hb13
        have c_b_0_13 := R_b_13.cell 0 rfl
        have c_b_1_13 := R_b_13.cell 1 rfl
        have c_b_2_13 := R_b_13.cell 2 rfl
        have c_b_3_13 := R_b_13.cell 3 rfl
        have c_b_4_13 := R_b_13.cell 4 rfl
        have c_b_5_13 := R_b_13.cell 5 rfl
        have l_b_13 := R_b_13.lt
        have R_p_13 := R_p_12.step hb13
        have c_p_0_13 := R_p_13.cell 0 rfl
        have c_p_1_13 := R_p_13.cell 1 rfl
        have c_p_2_13 := R_p_13.cell 2 rfl
        have l_p_13 := R_p_13.lt
        have R_f_13 := R_f_12.step hb13
        have c_f_0_13 := R_f_13.cell 0 rfl
        have c_f_1_13 := R_f_13.cell 1 rfl
        have c_f_2_13 := R_f_13.cell 2 rfl
        have l_f_13 := R_f_13.lt
        have R_g_13 := R_g_12.step hb13
        have c_g_0_13 := R_g_13.cell 0 rfl
        have c_g_1_13 := R_g_13.cell 1 rfl
        have c_g_2_13 := R_g_13.cell 2 rfl
        have z_g_0_13 := R_g_13.frozen 0
        have z_g_1_13 := R_g_13.frozen 1
        have z_g_2_13 := R_g_13.frozen 2
        have l_g_13 := R_g_13.lt
        have R_q_13 := R_q_12.step hb13
        have l_q_13 := R_q_13.lt
        have R_m_13 := R_m_12.step hb13
        have l_m_13 := R_m_13.lt
        have HB13 := HB12.trans (hb13.mono HB12.size)
        have hz13 := HB13.size
        have hS13 := And.intro c_b_0_13 (And.intro c_b_1_13 (And.intro c_b_2_13 (And.intro c_b_3_13 (And.intro c_b_4_13 (And.intro c_b_5_13 (And.intro c_p_0_13 (And.intro c_p_1_13 (And.intro c_p_2_13 (And.intro c_f_0_13 (And.intro c_f_1_13 (c_f_2_13)))))))))))
        refine hKz _ _ (fun _ => hS13) ?_
        clear hKz Kz hS12
        clear R_b_12 c_b_0_12 c_b_1_12 c_b_2_12 c_b_3_12 c_b_4_12 c_b_5_12 R_p_12 c_p_0_12 c_p_1_12 c_p_2_12 R_f_12 c_f_0_12 c_f_1_12 c_f_2_12 R_g_12 c_g_0_12 c_g_1_12 c_g_2_12 z_g_0_12 z_g_1_12 z_g_2_12 R_q_12 R_m_12 hb12 hw12
        refine AnyJ.one (i := 8) (by kernel_rfl) rfl (fun Kz hKz => ?_)
        go_simp
        have hP14 := put_all R_g_13 [.int .i64 4, .int .i64 0, .slice (some ⟨(w11.heap.size), 0, none⟩) 2 2] rfl
        simp only [Go.Proofs.Ytcmodmchnokmgaa.puts, Nat.reduceAdd, Nat.zero_add] at hP14
        obtain ⟨w14, hw14⟩ : ∃ x, (World.setCell (World.setCell (World.setCell w13 ⟨w7.heap.size, 0, none⟩ (.int .i64 4)) ⟨w7.heap.size, 1, none⟩ (.int .i64 0)) ⟨w7.heap.size, 2, none⟩ (.slice (some ⟨(w11.heap.size), 0, none⟩) 2 2)) = x := ⟨_, rfl⟩
        rw [hw14] at hP14 ⊢
        obtain ⟨hR14, hC14⟩ := hP14
        have R_b_14 := R_b_13.ch hC14 (by omega)
        have c_b_0_14 := R_b_14.cell 0 rfl
        have c_b_1_14 := R_b_14.cell 1 rfl
        have c_b_2_14 := R_b_14.cell 2 rfl
        have c_b_3_14 := R_b_14.cell 3 rfl
        have c_b_4_14 := R_b_14.cell 4 rfl
        have c_b_5_14 := R_b_14.cell 5 rfl
        have l_b_14 := R_b_14.lt
        have R_p_14 := R_p_13.ch hC14 (by omega)
        have c_p_0_14 := R_p_14.cell 0 rfl
        have c_p_1_14 := R_p_14.cell 1 rfl
        have c_p_2_14 := R_p_14.cell 2 rfl
        have l_p_14 := R_p_14.lt
        have R_f_14 := R_f_13.ch hC14 (by omega)
        have c_f_0_14 := R_f_14.cell 0 rfl
        have c_f_1_14 := R_f_14.cell 1 rfl
        have c_f_2_14 := R_f_14.cell 2 rfl
        have l_f_14 := R_f_14.lt
        have R_g_14 := hR14
        have c_g_0_14 := R_g_14.cell 0 rfl
        have c_g_1_14 := R_g_14.cell 1 rfl
        have c_g_2_14 := R_g_14.cell 2 rfl
        have z_g_0_14 := R_g_14.frozen 0
        have z_g_1_14 := R_g_14.frozen 1
        have z_g_2_14 := R_g_14.frozen 2
        have l_g_14 := R_g_14.lt
        have R_q_14 := R_q_13.ch hC14 (by omega)
        have l_q_14 := R_q_14.lt
        have R_m_14 := R_m_13.ch hC14 (by omega)
        have l_m_14 := R_m_14.lt
        have HB14 : Below w.heap.size w w14 := hC14.below HB13 (fun k hk => by omega) HB13.size
        have hs14 := hC14.size
        have hz14 := HB14.size
        have hS14 := And.intro c_b_0_14 (And.intro c_b_1_14 (And.intro c_b_2_14 (And.intro c_b_3_14 (And.intro c_b_4_14 (And.intro c_b_5_14 (And.intro c_p_0_14 (And.intro c_p_1_14 (And.intro c_p_2_14 (And.intro c_f_0_14 (And.intro c_f_1_14 (c_f_2_14)))))))))))
        refine hKz _ _ (fun _ => hS14) ?_
        clear hKz Kz hS13
        clear R_b_13 c_b_0_13 c_b_1_13 c_b_2_13 c_b_3_13 c_b_4_13 c_b_5_13 R_p_13 c_p_0_13 c_p_1_13 c_p_2_13 R_f_13 c_f_0_13 c_f_1_13 c_f_2_13 R_g_13 c_g_0_13 c_g_1_13 c_g_2_13 z_g_0_13 z_g_1_13 z_g_2_13 R_q_13 R_m_13 hb13
        refine AnyJ.done (by kernel_rfl) ?_ _
        clear hS14
        try simp only [Act.put, List.setIfInBounds_toArray, List.set_cons_zero, List.set_cons_succ]
        go_wp2_with fail
        go_meet
        exact ⟨w7.heap.size, w11.heap.size, w9.heap.size, rfl, R_g_14, R_m_14, R_q_14, R_b_14, R_p_14, R_f_14, HB14⟩
    ·
      go_simp
      generalize hw7 : World.alloc w6 _ = w7
      have hb7 : Below w6.heap.size w6 w7 := by rw [← hw7]; exact (Below.refl _ _).alloc (Nat.le_refl _) _
      have R_b_7 := R_b_6.step hb7
      have c_b_0_7 := R_b_7.cell 0 rfl
      have c_b_1_7 := R_b_7.cell 1 rfl
      have c_b_2_7 := R_b_7.cell 2 rfl
      have c_b_3_7 := R_b_7.cell 3 rfl
      have c_b_4_7 := R_b_7.cell 4 rfl
      have c_b_5_7 := R_b_7.cell 5 rfl
      have l_b_7 := R_b_7.lt
      have R_p_7 := R_p_6.step hb7
      have c_p_0_7 := R_p_7.cell 0 rfl
      have c_p_1_7 := R_p_7.cell 1 rfl
      have c_p_2_7 := R_p_7.cell 2 rfl
      have l_p_7 := R_p_7.lt
      have R_f_7 := R_f_6.step hb7
      have c_f_0_7 := R_f_7.cell 0 rfl
      have c_f_1_7 := R_f_7.cell 1 rfl
      have c_f_2_7 := R_f_7.cell 2 rfl
      have l_f_7 := R_f_7.lt
      have R_g_7 : Row w7 (w6.heap.size) [.int .i64 0, .int .i64 0, .slice none 0 0] := by rw [← hw7]; exact Row.new' _ _ _ rfl
      have c_g_0_7 := R_g_7.cell 0 rfl
      have c_g_1_7 := R_g_7.cell 1 rfl
      have c_g_2_7 := R_g_7.cell 2 rfl
      have z_g_0_7 := R_g_7.frozen 0
      have z_g_1_7 := R_g_7.frozen 1
      have z_g_2_7 := R_g_7.frozen 2
      have l_g_7 := R_g_7.lt
      have HB7 := HB6.trans (hb7.mono HB6.size)
      have hs7 := hb7.size
      have hz7 := HB7.size
      have hS7 := And.intro c_b_0_7 (And.intro c_b_1_7 (And.intro c_b_2_7 (And.intro c_b_3_7 (And.intro c_b_4_7 (And.intro c_b_5_7 (And.intro c_p_0_7 (And.intro c_p_1_7 (And.intro c_p_2_7 (And.intro c_f_0_7 (And.intro c_f_1_7 (c_f_2_7)))))))))))
      refine hKz _ _ (fun _ => hS7) ?_
      clear hKz Kz hS5
      clear R_b_6 c_b_0_6 c_b_1_6 c_b_2_6 c_b_3_6 c_b_4_6 c_b_5_6 R_p_6 c_p_0_6 c_p_1_6 c_p_2_6 R_f_6 c_f_0_6 c_f_1_6 c_f_2_6 hb6 hw6
      refine AnyJ.one (i := 0) (by kernel_rfl) rfl (fun Kz hKz => ?_)
      go_simp
      refine (leaf_any 2 10000 _).mono ?_
      rintro e w8 ⟨rfl, hb8⟩
      have R_b_8 := R_b_7.step hb8
      have c_b_0_8 := R_b_8.cell 0 rfl
      have c_b_1_8 := R_b_8.cell 1 rfl
      have c_b_2_8 := R_b_8.cell 2 rfl
      have c_b_3_8 := R_b_8.cell 3 rfl
      have c_b_4_8 := R_b_8.cell 4 rfl
      have c_b_5_8 := R_b_8.cell 5 rfl
      have l_b_8 := R_b_8.lt
      have R_p_8 := R_p_7.step hb8
      have c_p_0_8 := R_p_8.cell 0 rfl
      have c_p_1_8 := R_p_8.cell 1 rfl
      have c_p_2_8 := R_p_8.cell 2 rfl
      have l_p_8 := R_p_8.lt
      have R_f_8 := R_f_7.step hb8
      have c_f_0_8 := R_f_8.cell 0 rfl
      have c_f_1_8 := R_f_8.cell 1 rfl
      have c_f_2_8 := R_f_8.cell 2 rfl
      have l_f_8 := R_f_8.lt
      have R_g_8 := R_g_7.step hb8
      have c_g_0_8 := R_g_8.cell 0 rfl
      have c_g_1_8 := R_g_8.cell 1 rfl
      have c_g_2_8 := R_g_8.cell 2 rfl
      have z_g_0_8 := R_g_8.frozen 0
      have z_g_1_8 := R_g_8.frozen 1
      have z_g_2_8 := R_g_8.frozen 2
      have l_g_8 := R_g_8.lt
      have HB8 := HB7.trans (hb8.mono HB7.size)
      have hz8 := HB8.size
      have hS8 := And.intro c_b_0_8 (And.intro c_b_1_8 (And.intro c_b_2_8 (And.intro c_b_3_8 (And.intro c_b_4_8 (And.intro c_b_5_8 (And.intro c_p_0_8 (And.intro c_p_1_8 (And.intro c_p_2_8 (And.intro c_f_0_8 (And.intro c_f_1_8 (c_f_2_8)))))))))))
      refine hKz _ _ (fun _ => hS8) ?_
      clear hKz Kz hS7
      clear R_b_7 c_b_0_7 c_b_1_7 c_b_2_7 c_b_3_7 c_b_4_7 c_b_5_7 R_p_7 c_p_0_7 c_p_1_7 c_p_2_7 R_f_7 c_f_0_7 c_f_1_7 c_f_2_7 R_g_7 c_g_0_7 c_g_1_7 c_g_2_7 z_g_0_7 z_g_1_7 z_g_2_7 hb7 hw7
      refine AnyJ.one (i := 1) (by kernel_rfl) rfl (fun Kz hKz => ?_)
      go_simp
      refine (leaf_any 2 2000 _).mono ?_
      rintro e w9 ⟨rfl, hb9⟩
      have R_b_9 := R_b_8.step hb9
      have c_b_0_9 := R_b_9.cell 0 rfl
      have c_b_1_9 := R_b_9.cell 1 rfl
      have c_b_2_9 := R_b_9.cell 2 rfl
      have c_b_3_9 := R_b_9.cell 3 rfl
      have c_b_4_9 := R_b_9.cell 4 rfl
      have c_b_5_9 := R_b_9.cell 5 rfl
      have l_b_9 := R_b_9.lt
      have R_p_9 := R_p_8.step hb9
      have c_p_0_9 := R_p_9.cell 0 rfl
      have c_p_1_9 := R_p_9.cell 1 rfl
      have c_p_2_9 := R_p_9.cell 2 rfl
      have l_p_9 := R_p_9.lt
      have R_f_9 := R_f_8.step hb9
      have c_f_0_9 := R_f_9.cell 0 rfl
      have c_f_1_9 := R_f_9.cell 1 rfl
      have c_f_2_9 := R_f_9.cell 2 rfl
      have l_f_9 := R_f_9.lt
      have R_g_9 := R_g_8.step hb9
      have c_g_0_9 := R_g_9.cell 0 rfl
      have c_g_1_9 := R_g_9.cell 1 rfl
      have c_g_2_9 := R_g_9.cell 2 rfl
      have z_g_0_9 := R_g_9.frozen 0
      have z_g_1_9 := R_g_9.frozen 1
      have z_g_2_9 := R_g_9.frozen 2
      have l_g_9 := R_g_9.lt
      have HB9 := HB8.trans (hb9.mono HB8.size)
      have hz9 := HB9.size
      have hS9 := And.intro c_b_0_9 (And.intro c_b_1_9 (And.intro c_b_2_9 (And.intro c_b_3_9 (And.intro c_b_4_9 (And.intro c_b_5_9 (And.intro c_p_0_9 (And.intro c_p_1_9 (And.intro c_p_2_9 (And.intro c_f_0_9 (And.intro c_f_1_9 (c_f_2_9)))))))))))
      refine hKz _ _ (fun _ => hS9) ?_
      clear hKz Kz hS8
      clear R_b_8 c_b_0_8 c_b_1_8 c_b_2_8 c_b_3_8 c_b_4_8 c_b_5_8 R_p_8 c_p_0_8 c_p_1_8 c_p_2_8 R_f_8 c_f_0_8 c_f_1_8 c_f_2_8 R_g_8 c_g_0_8 c_g_1_8 c_g_2_8 z_g_0_8 z_g_1_8 z_g_2_8 hb8
      refine AnyJ.one (i := 3) (by kernel_rfl) rfl (fun Kz hKz => ?_)
      go_simp
      generalize hw10 : World.alloc w9 _ = w10
      have hb10 : Below w9.heap.size w9 w10 := by rw [← hw10]; exact (Below.refl _ _).alloc (Nat.le_refl _) _
      have R_b_10 := R_b_9.step hb10
      have c_b_0_10 := R_b_10.cell 0 rfl
      have c_b_1_10 := R_b_10.cell 1 rfl
      have c_b_2_10 := R_b_10.cell 2 rfl
      have c_b_3_10 := R_b_10.cell 3 rfl
      have c_b_4_10 := R_b_10.cell 4 rfl
      have c_b_5_10 := R_b_10.cell 5 rfl
      have l_b_10 := R_b_10.lt
      have R_p_10 := R_p_9.step hb10
      have c_p_0_10 := R_p_10.cell 0 rfl
      have c_p_1_10 := R_p_10.cell 1 rfl
      have c_p_2_10 := R_p_10.cell 2 rfl
      have l_p_10 := R_p_10.lt
      have R_f_10 := R_f_9.step hb10
      have c_f_0_10 := R_f_10.cell 0 rfl
      have c_f_1_10 := R_f_10.cell 1 rfl
      have c_f_2_10 := R_f_10.cell 2 rfl
      have l_f_10 := R_f_10.lt
      have R_g_10 := R_g_9.step hb10
      have c_g_0_10 := R_g_10.cell 0 rfl
      have c_g_1_10 := R_g_10.cell 1 rfl
      have c_g_2_10 := R_g_10.cell 2 rfl
      have z_g_0_10 := R_g_10.frozen 0
      have z_g_1_10 := R_g_10.frozen 1
      have z_g_2_10 := R_g_10.frozen 2
      have l_g_10 := R_g_10.lt
      have R_q_10 : Row w10 (w9.heap.size) [.int .i64 2, .int .i64 2000, .slice none 0 0, .int .i64 3, .int .i64 2, .slice none 0 0] := by rw [← hw10]; exact Row.new' _ _ _ rfl
      have l_q_10 := R_q_10.lt
      have HB10 := HB9.trans (hb10.mono HB9.size)
      have hs10 := hb10.size
      have hz10 := HB10.size
      have hS10 := And.intro c_b_0_10 (And.intro c_b_1_10 (And.intro c_b_2_10 (And.intro c_b_3_10 (And.intro c_b_4_10 (And.intro c_b_5_10 (And.intro c_p_0_10 (And.intro c_p_1_10 (And.intro c_p_2_10 (And.intro c_f_0_10 (And.intro c_f_1_10 (c_f_2_10)))))))))))
      refine hKz _ _ (fun _ => hS10) ?_
      clear hKz Kz hS9
      clear R_b_9 c_b_0_9 c_b_1_9 c_b_2_9 c_b_3_9 c_b_4_9 c_b_5_9 R_p_9 c_p_0_9 c_p_1_9 c_p_2_9 R_f_9 c_f_0_9 c_f_1_9 c_f_2_9 R_g_9 c_g_0_9 c_g_1_9 c_g_2_9 z_g_0_9 z_g_1_9 z_g_2_9 hb9
      refine AnyJ.one (i := 4) (by kernel_rfl) rfl (fun Kz hKz => ?_)
      go_simp
      refine (node_any 6 _ 2 2 _).mono ?_
      rintro e w11 ⟨rfl, hb11⟩
      have R_b_11 := R_b_10.step hb11
      have c_b_0_11 := R_b_11.cell 0 rfl
      have c_b_1_11 := R_b_11.cell 1 rfl
      have c_b_2_11 := R_b_11.cell 2 rfl
      have c_b_3_11 := R_b_11.cell 3 rfl
      have c_b_4_11 := R_b_11.cell 4 rfl
      have c_b_5_11 := R_b_11.cell 5 rfl
      have l_b_11 := R_b_11.lt
      have R_p_11 := R_p_10.step hb11
      have c_p_0_11 := R_p_11.cell 0 rfl
      have c_p_1_11 := R_p_11.cell 1 rfl
      have c_p_2_11 := R_p_11.cell 2 rfl
      have l_p_11 := R_p_11.lt
      have R_f_11 := R_f_10.step hb11
      have c_f_0_11 := R_f_11.cell 0 rfl
      have c_f_1_11 := R_f_11.cell 1 rfl
      have c_f_2_11 := R_f_11.cell 2 rfl
      have l_f_11 := R_f_11.lt
      have R_g_11 := R_g_10.step hb11
      have c_g_0_11 := R_g_11.cell 0 rfl
      have c_g_1_11 := R_g_11.cell 1 rfl
      have c_g_2_11 := R_g_11.cell 2 rfl
      have z_g_0_11 := R_g_11.frozen 0
      have z_g_1_11 := R_g_11.frozen 1
      have z_g_2_11 := R_g_11.frozen 2
      have l_g_11 := R_g_11.lt
      have R_q_11 := R_q_10.step hb11
      have l_q_11 := R_q_11.lt
      have HB11 := HB10.trans (hb11.mono HB10.size)
      have hz11 := HB11.size
      have hS11 := And.intro c_b_0_11 (And.intro c_b_1_11 (And.intro c_b_2_11 (And.intro c_b_3_11 (And.intro c_b_4_11 (And.intro c_b_5_11 (And.intro c_p_0_11 (And.intro c_p_1_11 (And.intro c_p_2_11 (And.intro c_f_0_11 (And.intro c_f_1_11 (c_f_2_11)))))))))))
      refine hKz _ _ (fun _ => hS11) ?_
      clear hKz Kz hS10
      clear R_b_10 c_b_0_10 c_b_1_10 c_b_2_10 c_b_3_10 c_b_4_10 c_b_5_10 R_p_10 c_p_0_10 c_p_1_10 c_p_2_10 R_f_10 c_f_0_10 c_f_1_10 c_f_2_10 R_g_10 c_g_0_10 c_g_1_10 c_g_2_10 z_g_0_10 z_g_1_10 z_g_2_10 R_q_10 hb10 hw10
      refine AnyJ.one (i := 5) (by kernel_rfl) rfl (fun Kz hKz => ?_)
      go_simp
      generalize hw12 : World.alloc w11 _ = w12
      have hb12 : Below w11.heap.size w11 w12 := by rw [← hw12]; exact (Below.refl _ _).alloc (Nat.le_refl _) _
      have R_b_12 := R_b_11.step hb12
      have c_b_0_12 := R_b_12.cell 0 rfl
      have c_b_1_12 := R_b_12.cell 1 rfl
      have c_b_2_12 := R_b_12.cell 2 rfl
      have c_b_3_12 := R_b_12.cell 3 rfl
      have c_b_4_12 := R_b_12.cell 4 rfl
      have c_b_5_12 := R_b_12.cell 5 rfl
      have l_b_12 := R_b_12.lt
      have R_p_12 := R_p_11.step hb12
      have c_p_0_12 := R_p_12.cell 0 rfl
      have c_p_1_12 := R_p_12.cell 1 rfl
      have c_p_2_12 := R_p_12.cell 2 rfl
      have l_p_12 := R_p_12.lt
      have R_f_12 := R_f_11.step hb12
      have c_f_0_12 := R_f_12.cell 0 rfl
      have c_f_1_12 := R_f_12.cell 1 rfl
      have c_f_2_12 := R_f_12.cell 2 rfl
      have l_f_12 := R_f_12.lt
      have R_g_12 := R_g_11.step hb12
      have c_g_0_12 := R_g_12.cell 0 rfl
      have c_g_1_12 := R_g_12.cell 1 rfl
      have c_g_2_12 := R_g_12.cell 2 rfl
      have z_g_0_12 := R_g_12.frozen 0
      have z_g_1_12 := R_g_12.frozen 1
      have z_g_2_12 := R_g_12.frozen 2
      have l_g_12 := R_g_12.lt
      have R_q_12 := R_q_11.step hb12
      have l_q_12 := R_q_12.lt
      have R_m_12 : Row w12 (w11.heap.size) [.int .i64 2, .int .i64 10000, .slice none 0 0, .int .i64 6, .int .i64 0, .slice (some ⟨(w9.heap.size), 0, none⟩) 2 2] := by rw [← hw12]; exact Row.new' _ _ _ rfl
      have l_m_12 := R_m_12.lt
      have HB12 := HB11.trans (hb12.mono HB11.size)
      have hs12 := hb12.size
      have hz12 := HB12.size
      have hS12 := And.intro c_b_0_12 (And.intro c_b_1_12 (And.intro c_b_2_12 (And.intro c_b_3_12 (And.intro c_b_4_12 (And.intro c_b_5_12 (And.intro c_p_0_12 (And.intro c_p_1_12 (And.intro c_p_2_12 (And.intro c_f_0_12 (And.intro c_f_1_12 (c_f_2_12)))))))))))
      refine hKz _ _ (fun _ => hS12) ?_
      clear hKz Kz hS11
      clear R_b_11 c_b_0_11 c_b_1_11 c_b_2_11 c_b_3_11 c_b_4_11 c_b_5_11 R_p_11 c_p_0_11 c_p_1_11 c_p_2_11 R_f_11 c_f_0_11 c_f_1_11 c_f_2_11 R_g_11 c_g_0_11 c_g_1_11 c_g_2_11 z_g_0_11 z_g_1_11 z_g_2_11 R_q_11 hb11
      refine AnyJ.one (i := 6) (by kernel_rfl) rfl (fun Kz hKz => ?_)
      go_simp
      refine (node_any 4 _ 2 2 _).mono ?_
      rintro e w13 ⟨rfl, hb13⟩
      have R_b_13 := R_b_12.step hb13
      have c_b_0_13 := R_b_13.cell 0 rfl
      have c_b_1_13 := R_b_13.cell 1 rfl
      have c_b_2_13 := R_b_13.cell 2 rfl
      have c_b_3_13 := R_b_13.cell 3 rfl
      have c_b_4_13 := R_b_13.cell 4 rfl
      have c_b_5_13 := R_b_13.cell 5 rfl
      have l_b_13 := R_b_13.lt
      have R_p_13 := R_p_12.step hb13
      have c_p_0_13 := R_p_13.cell 0 rfl
      have c_p_1_13 := R_p_13.cell 1 rfl
      have c_p_2_13 := R_p_13.cell 2 rfl
      have l_p_13 := R_p_13.lt
      have R_f_13 := R_f_12.step hb13
      have c_f_0_13 := R_f_13.cell 0 rfl
      have c_f_1_13 := R_f_13.cell 1 rfl
      have c_f_2_13 := R_f_13.cell 2 rfl
      have l_f_13 := R_f_13.lt
      have R_g_13 := R_g_12.step hb13
      have c_g_0_13 := R_g_13.cell 0 rfl
      have c_g_1_13 := R_g_13.cell 1 rfl
      have c_g_2_13 := R_g_13.cell 2 rfl
      have z_g_0_13 := R_g_13.frozen 0
      have z_g_1_13 := R_g_13.frozen 1
      have z_g_2_13 := R_g_13.frozen 2
      have l_g_13 := R_g_13.lt
      have R_q_13 := R_q_12.step hb13
      have l_q_13 := R_q_13.lt
      have R_m_13 := R_m_12.step hb13
      have l_m_13 := R_m_13.lt
      have HB13 := HB12.trans (hb13.mono HB12.size)
      have hz13 := HB13.size
      have hS13 := And.intro c_b_0_13 (And.intro c_b_1_13 (And.intro c_b_2_13 (And.intro c_b_3_13 (And.intro c_b_4_13 (And.intro c_b_5_13 (And.intro c_p_0_13 (And.intro c_p_1_13 (And.intro c_p_2_13 (And.intro c_f_0_13 (And.intro c_f_1_13 (c_f_2_13)))))))))))
      refine hKz _ _ (fun _ => hS13) ?_
      clear hKz Kz hS12
      clear R_b_12 c_b_0_12 c_b_1_12 c_b_2_12 c_b_3_12 c_b_4_12 c_b_5_12 R_p_12 c_p_0_12 c_p_1_12 c_p_2_12 R_f_12 c_f_0_12 c_f_1_12 c_f_2_12 R_g_12 c_g_0_12 c_g_1_12 c_g_2_12 z_g_0_12 z_g_1_12 z_g_2_12 R_q_12 R_m_12 hb12 hw12
      refine AnyJ.one (i := 8) (by kernel_rfl) rfl (fun Kz hKz => ?_)
      go_simp
      have hP14 := put_all R_g_13 [.int .i64 4, .int .i64 0, .slice (some ⟨(w11.heap.size), 0, none⟩) 2 2] rfl
      simp only [Go.Proofs.Ytcmodmchnokmgaa.puts, Nat.reduceAdd, Nat.zero_add] at hP14
      obtain ⟨w14, hw14⟩ : ∃ x, (World.setCell (World.setCell (World.setCell w13 ⟨w6.heap.size, 0, none⟩ (.int .i64 4)) ⟨w6.heap.size, 1, none⟩ (.int .i64 0)) ⟨w6.heap.size, 2, none⟩ (.slice (some ⟨(w11.heap.size), 0, none⟩) 2 2)) = x := ⟨_, rfl⟩
      rw [hw14] at hP14 ⊢
      obtain ⟨hR14, hC14⟩ := hP14
      have R_b_14 := R_b_13.ch hC14 (by omega)
      have c_b_0_14 := R_b_14.cell 0 rfl
      have c_b_1_14 := R_b_14.cell 1 rfl
      have c_b_2_14 := R_b_14.cell 2 rfl
      have c_b_3_14 := R_b_14.cell 3 rfl
      have c_b_4_14 := R_b_14.cell 4 rfl
      have c_b_5_14 := R_b_14.cell 5 rfl
      have l_b_14 := R_b_14.lt
      have R_p_14 := R_p_13.ch hC14 (by omega)
      have c_p_0_14 := R_p_14.cell 0 rfl
      have c_p_1_14 := R_p_14.cell 1 rfl
      have c_p_2_14 := R_p_14.cell 2 rfl
      have l_p_14 := R_p_14.lt
      have R_f_14 := R_f_13.ch hC14 (by omega)
      have c_f_0_14 := R_f_14.cell 0 rfl
      have c_f_1_14 := R_f_14.cell 1 rfl
      have c_f_2_14 := R_f_14.cell 2 rfl
      have l_f_14 := R_f_14.lt
      have R_g_14 := hR14
      have c_g_0_14 := R_g_14.cell 0 rfl
      have c_g_1_14 := R_g_14.cell 1 rfl
      have c_g_2_14 := R_g_14.cell 2 rfl
      have z_g_0_14 := R_g_14.frozen 0
      have z_g_1_14 := R_g_14.frozen 1
      have z_g_2_14 := R_g_14.frozen 2
      have l_g_14 := R_g_14.lt
      have R_q_14 := R_q_13.ch hC14 (by omega)
      have l_q_14 := R_q_14.lt
      have R_m_14 := R_m_13.ch hC14 (by omega)
      have l_m_14 := R_m_14.lt
      have HB14 : Below w.heap.size w w14 := hC14.below HB13 (fun k hk => by omega) HB13.size
      have hs14 := hC14.size
      have hz14 := HB14.size
      have hS14 := And.intro c_b_0_14 (And.intro c_b_1_14 (And.intro c_b_2_14 (And.intro c_b_3_14 (And.intro c_b_4_14 (And.intro c_b_5_14 (And.intro c_p_0_14 (And.intro c_p_1_14 (And.intro c_p_2_14 (And.intro c_f_0_14 (And.intro c_f_1_14 (c_f_2_14)))))))))))
      refine hKz _ _ (fun _ => hS14) ?_
      clear hKz Kz hS13
      clear R_b_13 c_b_0_13 c_b_1_13 c_b_2_13 c_b_3_13 c_b_4_13 c_b_5_13 R_p_13 c_p_0_13 c_p_1_13 c_p_2_13 R_f_13 c_f_0_13 c_f_1_13 c_f_2_13 R_g_13 c_g_0_13 c_g_1_13 c_g_2_13 z_g_0_13 z_g_1_13 z_g_2_13 R_q_13 R_m_13 hb13
      refine AnyJ.done (by kernel_rfl) ?_ _
      clear hS14
      try simp only [Act.put, List.setIfInBounds_toArray, List.set_cons_zero, List.set_cons_succ]
      go_wp2_with fail
      go_meet
      exact ⟨w6.heap.size, w11.heap.size, w9.heap.size, rfl, R_g_14, R_m_14, R_q_14, R_b_14, R_p_14, R_f_14, HB14⟩
  case' rest =>
    obtain ⟨g, B3, B2, rfl, R_g_20, R_m_20, R_q_20, R_b_20, R_p_20, R_f_20, HB20⟩ := hcut
    obtain ⟨w20, hw20⟩ : ∃ wd, wd = wc := ⟨_, rfl⟩
    subst hw20
    obtain ⟨w21, hw21⟩ : ∃ x, w20 = x := ⟨_, rfl⟩
    rw [hw21]
    have hb21 : Below w20.heap.size w20 w21 := by rw [← hw21]; (repeat' (first | (with_reducible exact Below.refl _ _) | (with_reducible assumption) | (with_reducible exact Bw.out (by with_reducible assumption)) | (with_reducible refine bw_alloc ?_ _) | (with_reducible refine bw_step ?_ (by with_reducible assumption)) | (with_reducible refine Below.alloc ?_ ?_ _) | (with_reducible refine Below.drew ?_) | (with_reducible refine below_drewN ?_ _) | (with_reducible refine Below.setCell ?_ ?_ _) | (with_reducible refine below_step ?_ (by with_reducible assumption) ?_) | (with_reducible exact Nat.le_refl _) | omega | (simp; omega) | (simp; done)))
    have R_b_21 : Row w21 (w3.heap.size) [.int .i64 3, .int .i64 1, .slice none 0 0, .int .i64 1, .int .i64 5, .slice none 0 0] := by rw [← hw21]; (repeat' (first | (with_reducible assumption) | (with_reducible refine Row.new' _ _ _ (by first | rfl | (simp; done) | omega)) | (with_reducible refine Row.alloc ?_ _) | (with_reducible refine Row.drew ?_) | (with_reducible refine Row.drewN ?_ _) | (with_reducible refine Row.step ?_ (by with_reducible assumption)) | (with_reducible refine Row.set2' ?_ _ _; first | exact ⟨_, _, by with_reducible assumption⟩ | exact ⟨_, _, Row.alloc (by with_reducible assumption) _⟩ | exact ⟨_, _, Row.alloc (Row.alloc (by with_reducible assumption) _) _⟩) | (with_reducible refine Row.other ?_ (by first | omega | (simp; done) | (simp; omega)) _)))
    have c_b_0_21 := R_b_21.cell 0 rfl
    have c_b_1_21 := R_b_21.cell 1 rfl
    have c_b_2_21 := R_b_21.cell 2 rfl
    have c_b_3_21 := R_b_21.cell 3 rfl
    have c_b_4_21 := R_b_21.cell 4 rfl
    have c_b_5_21 := R_b_21.cell 5 rfl
    have l_b_21 := R_b_21.lt
    have R_p_21 : Row w21 (w4.heap.size) [.int .i64 3, .int .i64 2, .slice none 0 0] := by rw [← hw21]; (repeat' (first | (with_reducible assumption) | (with_reducible refine Row.new' _ _ _ (by first | rfl | (simp; done) | omega)) | (with_reducible refine Row.alloc ?_ _) | (with_reducible refine Row.drew ?_) | (with_reducible refine Row.drewN ?_ _) | (with_reducible refine Row.step ?_ (by with_reducible assumption)) | (with_reducible refine Row.set2' ?_ _ _; first | exact ⟨_, _, by with_reducible assumption⟩ | exact ⟨_, _, Row.alloc (by with_reducible assumption) _⟩ | exact ⟨_, _, Row.alloc (Row.alloc (by with_reducible assumption) _) _⟩) | (with_reducible refine Row.other ?_ (by first | omega | (simp; done) | (simp; omega)) _)))
    have c_p_0_21 := R_p_21.cell 0 rfl
    have c_p_1_21 := R_p_21.cell 1 rfl
    have c_p_2_21 := R_p_21.cell 2 rfl
    have l_p_21 := R_p_21.lt
    have R_f_21 : Row w21 (w4.heap.size + 1) [.int .i64 11, .int .i64 0, .slice (some ⟨w3.heap.size, 0, none⟩) 2 2] := by rw [← hw21]; (repeat' (first | (with_reducible assumption) | (with_reducible refine Row.new' _ _ _ (by first | rfl | (simp; done) | omega)) | (with_reducible refine Row.alloc ?_ _) | (with_reducible refine Row.drew ?_) | (with_reducible refine Row.drewN ?_ _) | (with_reducible refine Row.step ?_ (by with_reducible assumption)) | (with_reducible refine Row.set2' ?_ _ _; first | exact ⟨_, _, by with_reducible assumption⟩ | exact ⟨_, _, Row.alloc (by with_reducible assumption) _⟩ | exact ⟨_, _, Row.alloc (Row.alloc (by with_reducible assumption) _) _⟩) | (with_reducible refine Row.other ?_ (by first | omega | (simp; done) | (simp; omega)) _)))
    have c_f_0_21 := R_f_21.cell 0 rfl
    have c_f_1_21 := R_f_21.cell 1 rfl
    have c_f_2_21 := R_f_21.cell 2 rfl
    have l_f_21 := R_f_21.lt
    have R_g_21 : Row w21 (g) [.int .i64 4, .int .i64 0, .slice (some ⟨B3, 0, none⟩) 2 2] := by rw [← hw21]; (repeat' (first | (with_reducible assumption) | (with_reducible refine Row.new' _ _ _ (by first | rfl | (simp; done) | omega)) | (with_reducible refine Row.alloc ?_ _) | (with_reducible refine Row.drew ?_) | (with_reducible refine Row.drewN ?_ _) | (with_reducible refine Row.step ?_ (by with_reducible assumption)) | (with_reducible refine Row.set2' ?_ _ _; first | exact ⟨_, _, by with_reducible assumption⟩ | exact ⟨_, _, Row.alloc (by with_reducible assumption) _⟩ | exact ⟨_, _, Row.alloc (Row.alloc (by with_reducible assumption) _) _⟩) | (with_reducible refine Row.other ?_ (by first | omega | (simp; done) | (simp; omega)) _)))
    have c_g_0_21 := R_g_21.cell 0 rfl
    have c_g_1_21 := R_g_21.cell 1 rfl
    have c_g_2_21 := R_g_21.cell 2 rfl
    have l_g_21 := R_g_21.lt
    have R_m_21 : Row w21 (B3) [.int .i64 2, .int .i64 10000, .slice none 0 0, .int .i64 6, .int .i64 0, .slice (some ⟨B2, 0, none⟩) 2 2] := by rw [← hw21]; (repeat' (first | (with_reducible assumption) | (with_reducible refine Row.new' _ _ _ (by first | rfl | (simp; done) | omega)) | (with_reducible refine Row.alloc ?_ _) | (with_reducible refine Row.drew ?_) | (with_reducible refine Row.drewN ?_ _) | (with_reducible refine Row.step ?_ (by with_reducible assumption)) | (with_reducible refine Row.set2' ?_ _ _; first | exact ⟨_, _, by with_reducible assumption⟩ | exact ⟨_, _, Row.alloc (by with_reducible assumption) _⟩ | exact ⟨_, _, Row.alloc (Row.alloc (by with_reducible assumption) _) _⟩) | (with_reducible refine Row.other ?_ (by first | omega | (simp; done) | (simp; omega)) _)))
    have c_m_0_21 := R_m_21.cell 0 rfl
    have c_m_1_21 := R_m_21.cell 1 rfl
    have c_m_2_21 := R_m_21.cell 2 rfl
    have c_m_3_21 := R_m_21.cell 3 rfl
    have c_m_4_21 := R_m_21.cell 4 rfl
    have c_m_5_21 := R_m_21.cell 5 rfl
    have l_m_21 := R_m_21.lt
    have R_q_21 : Row w21 (B2) [.int .i64 2, .int .i64 2000, .slice none 0 0, .int .i64 3, .int .i64 2, .slice none 0 0] := by rw [← hw21]; (repeat' (first | (with_reducible assumption) | (with_reducible refine Row.new' _ _ _ (by first | rfl | (simp; done) | omega)) | (with_reducible refine Row.alloc ?_ _) | (with_reducible refine Row.drew ?_) | (with_reducible refine Row.drewN ?_ _) | (with_reducible refine Row.step ?_ (by with_reducible assumption)) | (with_reducible refine Row.set2' ?_ _ _; first | exact ⟨_, _, by with_reducible assumption⟩ | exact ⟨_, _, Row.alloc (by with_reducible assumption) _⟩ | exact ⟨_, _, Row.alloc (Row.alloc (by with_reducible assumption) _) _⟩) | (with_reducible refine Row.other ?_ (by first | omega | (simp; done) | (simp; omega)) _)))
    have c_q_0_21 := R_q_21.cell 0 rfl
    have c_q_1_21 := R_q_21.cell 1 rfl
    have c_q_2_21 := R_q_21.cell 2 rfl
    have c_q_3_21 := R_q_21.cell 3 rfl
    have c_q_4_21 := R_q_21.cell 4 rfl
    have c_q_5_21 := R_q_21.cell 5 rfl
    have l_q_21 := R_q_21.lt
    have HB21 := HB20.trans (hb21.mono HB20.size)
    have hs21 := hb21.size
    have hz21 := HB21.size
    go_wp2_with fail
    refine (infer_pe (nd 4 B3 [lf 2 10000, nd 6 B2 [lf 2 2000, lf 3 2]]) _ (nd_row2 R_m_21 4 (lf 2 10000) (nd 6 B2 [lf 2 2000, lf 3 2]) rfl (lf_in _ _ _) (nd_row2 R_q_21 6 (lf 2 2000) (lf 3 2) rfl (lf_in _ _ _) (lf_in _ _ _))) 2 0 (e_money _ _)).mono ?_
    rintro e w22 ⟨rfl, hb22⟩
    have R_b_22 : Row w22 (w3.heap.size) [.int .i64 3, .int .i64 1, .slice none 0 0, .int .i64 1, .int .i64 5, .slice none 0 0] := by (repeat' (first | (with_reducible assumption) | (with_reducible refine Row.new' _ _ _ (by first | rfl | (simp; done) | omega)) | (with_reducible refine Row.alloc ?_ _) | (with_reducible refine Row.drew ?_) | (with_reducible refine Row.drewN ?_ _) | (with_reducible refine Row.step ?_ (by with_reducible assumption)) | (with_reducible refine Row.set2' ?_ _ _; first | exact ⟨_, _, by with_reducible assumption⟩ | exact ⟨_, _, Row.alloc (by with_reducible assumption) _⟩ | exact ⟨_, _, Row.alloc (Row.alloc (by with_reducible assumption) _) _⟩) | (with_reducible refine Row.other ?_ (by first | omega | (simp; done) | (simp; omega)) _)))
    have c_b_0_22 := R_b_22.cell 0 rfl
    have c_b_1_22 := R_b_22.cell 1 rfl
    have c_b_2_22 := R_b_22.cell 2 rfl
    have c_b_3_22 := R_b_22.cell 3 rfl
    have c_b_4_22 := R_b_22.cell 4 rfl
    have c_b_5_22 := R_b_22.cell 5 rfl
    have l_b_22 := R_b_22.lt
    have R_p_22 : Row w22 (w4.heap.size) [.int .i64 3, .int .i64 2, .slice none 0 0] := by (repeat' (first | (with_reducible assumption) | (with_reducible refine Row.new' _ _ _ (by first | rfl | (simp; done) | omega)) | (with_reducible refine Row.alloc ?_ _) | (with_reducible refine Row.drew ?_) | (with_reducible refine Row.drewN ?_ _) | (with_reducible refine Row.step ?_ (by with_reducible assumption)) | (with_reducible refine Row.set2' ?_ _ _; first | exact ⟨_, _, by with_reducible assumption⟩ | exact ⟨_, _, Row.alloc (by with_reducible assumption) _⟩ | exact ⟨_, _, Row.alloc (Row.alloc (by with_reducible assumption) _) _⟩) | (with_reducible refine Row.other ?_ (by first | omega | (simp; done) | (simp; omega)) _)))
    have c_p_0_22 := R_p_22.cell 0 rfl
    have c_p_1_22 := R_p_22.cell 1 rfl
    have c_p_2_22 := R_p_22.cell 2 rfl
    have l_p_22 := R_p_22.lt
    have R_f_22 : Row w22 (w4.heap.size + 1) [.int .i64 11, .int .i64 0, .slice (some ⟨w3.heap.size, 0, none⟩) 2 2] := by (repeat' (first | (with_reducible assumption) | (with_reducible refine Row.new' _ _ _ (by first | rfl | (simp; done) | omega)) | (with_reducible refine Row.alloc ?_ _) | (with_reducible refine Row.drew ?_) | (with_reducible refine Row.drewN ?_ _) | (with_reducible refine Row.step ?_ (by with_reducible assumption)) | (with_reducible refine Row.set2' ?_ _ _; first | exact ⟨_, _, by with_reducible assumption⟩ | exact ⟨_, _, Row.alloc (by with_reducible assumption) _⟩ | exact ⟨_, _, Row.alloc (Row.alloc (by with_reducible assumption) _) _⟩) | (with_reducible refine Row.other ?_ (by first | omega | (simp; done) | (simp; omega)) _)))
    have c_f_0_22 := R_f_22.cell 0 rfl
    have c_f_1_22 := R_f_22.cell 1 rfl
    have c_f_2_22 := R_f_22.cell 2 rfl
    have l_f_22 := R_f_22.lt
    have R_g_22 : Row w22 (g) [.int .i64 4, .int .i64 0, .slice (some ⟨B3, 0, none⟩) 2 2] := by (repeat' (first | (with_reducible assumption) | (with_reducible refine Row.new' _ _ _ (by first | rfl | (simp; done) | omega)) | (with_reducible refine Row.alloc ?_ _) | (with_reducible refine Row.drew ?_) | (with_reducible refine Row.drewN ?_ _) | (with_reducible refine Row.step ?_ (by with_reducible assumption)) | (with_reducible refine Row.set2' ?_ _ _; first | exact ⟨_, _, by with_reducible assumption⟩ | exact ⟨_, _, Row.alloc (by with_reducible assumption) _⟩ | exact ⟨_, _, Row.alloc (Row.alloc (by with_reducible assumption) _) _⟩) | (with_reducible refine Row.other ?_ (by first | omega | (simp; done) | (simp; omega)) _)))
    have c_g_0_22 := R_g_22.cell 0 rfl
    have c_g_1_22 := R_g_22.cell 1 rfl
    have c_g_2_22 := R_g_22.cell 2 rfl
    have l_g_22 := R_g_22.lt
    have R_m_22 : Row w22 (B3) [.int .i64 2, .int .i64 10000, .slice none 0 0, .int .i64 6, .int .i64 0, .slice (some ⟨B2, 0, none⟩) 2 2] := by (repeat' (first | (with_reducible assumption) | (with_reducible refine Row.new' _ _ _ (by first | rfl | (simp; done) | omega)) | (with_reducible refine Row.alloc ?_ _) | (with_reducible refine Row.drew ?_) | (with_reducible refine Row.drewN ?_ _) | (with_reducible refine Row.step ?_ (by with_reducible assumption)) | (with_reducible refine Row.set2' ?_ _ _; first | exact ⟨_, _, by with_reducible assumption⟩ | exact ⟨_, _, Row.alloc (by with_reducible assumption) _⟩ | exact ⟨_, _, Row.alloc (Row.alloc (by with_reducible assumption) _) _⟩) | (with_reducible refine Row.other ?_ (by first | omega | (simp; done) | (simp; omega)) _)))
    have c_m_0_22 := R_m_22.cell 0 rfl
    have c_m_1_22 := R_m_22.cell 1 rfl
    have c_m_2_22 := R_m_22.cell 2 rfl
    have c_m_3_22 := R_m_22.cell 3 rfl
    have c_m_4_22 := R_m_22.cell 4 rfl
    have c_m_5_22 := R_m_22.cell 5 rfl
    have l_m_22 := R_m_22.lt
    have R_q_22 : Row w22 (B2) [.int .i64 2, .int .i64 2000, .slice none 0 0, .int .i64 3, .int .i64 2, .slice none 0 0] := by (repeat' (first | (with_reducible assumption) | (with_reducible refine Row.new' _ _ _ (by first | rfl | (simp; done) | omega)) | (with_reducible refine Row.alloc ?_ _) | (with_reducible refine Row.drew ?_) | (with_reducible refine Row.drewN ?_ _) | (with_reducible refine Row.step ?_ (by with_reducible assumption)) | (with_reducible refine Row.set2' ?_ _ _; first | exact ⟨_, _, by with_reducible assumption⟩ | exact ⟨_, _, Row.alloc (by with_reducible assumption) _⟩ | exact ⟨_, _, Row.alloc (Row.alloc (by with_reducible assumption) _) _⟩) | (with_reducible refine Row.other ?_ (by first | omega | (simp; done) | (simp; omega)) _)))
    have c_q_0_22 := R_q_22.cell 0 rfl
    have c_q_1_22 := R_q_22.cell 1 rfl
    have c_q_2_22 := R_q_22.cell 2 rfl
    have c_q_3_22 := R_q_22.cell 3 rfl
    have c_q_4_22 := R_q_22.cell 4 rfl
    have c_q_5_22 := R_q_22.cell 5 rfl
    have l_q_22 := R_q_22.lt
    have HB22 : Below w.heap.size w w22 := by (repeat' (first | (with_reducible exact Below.refl _ _) | (with_reducible assumption) | (with_reducible exact Bw.out (by with_reducible assumption)) | (with_reducible refine bw_alloc ?_ _) | (with_reducible refine bw_step ?_ (by with_reducible assumption)) | (with_reducible refine Below.alloc ?_ ?_ _) | (with_reducible refine Below.drew ?_) | (with_reducible refine below_drewN ?_ _) | (with_reducible refine Below.setCell ?_ ?_ _) | (with_reducible refine below_step ?_ (by with_reducible assumption) ?_) | (with_reducible exact Nat.le_refl _) | omega | (simp; omega) | (simp; done)))
    clear R_b_21 c_b_0_21 c_b_1_21 c_b_2_21 c_b_3_21 c_b_4_21 c_b_5_21 R_p_21 c_p_0_21 c_p_1_21 c_p_2_21 R_f_21 c_f_0_21 c_f_1_21 c_f_2_21 R_g_21 c_g_0_21 c_g_1_21 c_g_2_21 R_m_21 c_m_0_21 c_m_1_21 c_m_2_21 c_m_3_21 c_m_4_21 c_m_5_21 R_q_21 c_q_0_21 c_q_1_21 c_q_2_21 c_q_3_21 c_q_4_21 c_q_5_21 hb21 hw21
    go_wp2_with fail
    refine (infer_pe (nd 11 w3.heap.size [lf 3 1, lf 1 5]) _ (nd_row2 R_b_22 11 (lf 3 1) (lf 1 5) rfl (lf_in _ _ _) (lf_in _ _ _)) 3 0 (e_five _)).mono ?_
    rintro e w23 ⟨rfl, hb23⟩
    have R_b_23 : Row w23 (w3.heap.size) [.int .i64 3, .int .i64 1, .slice none 0 0, .int .i64 1, .int .i64 5, .slice none 0 0] := by (repeat' (first | (with_reducible assumption) | (with_reducible refine Row.new' _ _ _ (by first | rfl | (simp; done) | omega)) | (with_reducible refine Row.alloc ?_ _) | (with_reducible refine Row.drew ?_) | (with_reducible refine Row.drewN ?_ _) | (with_reducible refine Row.step ?_ (by with_reducible assumption)) | (with_reducible refine Row.set2' ?_ _ _; first | exact ⟨_, _, by with_reducible assumption⟩ | exact ⟨_, _, Row.alloc (by with_reducible assumption) _⟩ | exact ⟨_, _, Row.alloc (Row.alloc (by with_reducible assumption) _) _⟩) | (with_reducible refine Row.other ?_ (by first | omega | (simp; done) | (simp; omega)) _)))
    have c_b_0_23 := R_b_23.cell 0 rfl
    have c_b_1_23 := R_b_23.cell 1 rfl
    have c_b_2_23 := R_b_23.cell 2 rfl
    have c_b_3_23 := R_b_23.cell 3 rfl
    have c_b_4_23 := R_b_23.cell 4 rfl
    have c_b_5_23 := R_b_23.cell 5 rfl
    have l_b_23 := R_b_23.lt
    have R_p_23 : Row w23 (w4.heap.size) [.int .i64 3, .int .i64 2, .slice none 0 0] := by (repeat' (first | (with_reducible assumption) | (with_reducible refine Row.new' _ _ _ (by first | rfl | (simp; done) | omega)) | (with_reducible refine Row.alloc ?_ _) | (with_reducible refine Row.drew ?_) | (with_reducible refine Row.drewN ?_ _) | (with_reducible refine Row.step ?_ (by with_reducible assumption)) | (with_reducible refine Row.set2' ?_ _ _; first | exact ⟨_, _, by with_reducible assumption⟩ | exact ⟨_, _, Row.alloc (by with_reducible assumption) _⟩ | exact ⟨_, _, Row.alloc (Row.alloc (by with_reducible assumption) _) _⟩) | (with_reducible refine Row.other ?_ (by first | omega | (simp; done) | (simp; omega)) _)))
    have c_p_0_23 := R_p_23.cell 0 rfl
    have c_p_1_23 := R_p_23.cell 1 rfl
    have c_p_2_23 := R_p_23.cell 2 rfl
    have l_p_23 := R_p_23.lt
    have R_f_23 : Row w23 (w4.heap.size + 1) [.int .i64 11, .int .i64 0, .slice (some ⟨w3.heap.size, 0, none⟩) 2 2] := by (repeat' (first | (with_reducible assumption) | (with_reducible refine Row.new' _ _ _ (by first | rfl | (simp; done) | omega)) | (with_reducible refine Row.alloc ?_ _) | (with_reducible refine Row.drew ?_) | (with_reducible refine Row.drewN ?_ _) | (with_reducible refine Row.step ?_ (by with_reducible assumption)) | (with_reducible refine Row.set2' ?_ _ _; first | exact ⟨_, _, by with_reducible assumption⟩ | exact ⟨_, _, Row.alloc (by with_reducible assumption) _⟩ | exact ⟨_, _, Row.alloc (Row.alloc (by with_reducible assumption) _) _⟩) | (with_reducible refine Row.other ?_ (by first | omega | (simp; done) | (simp; omega)) _)))
    have c_f_0_23 := R_f_23.cell 0 rfl
    have c_f_1_23 := R_f_23.cell 1 rfl
    have c_f_2_23 := R_f_23.cell 2 rfl
    have l_f_23 := R_f_23.lt
    have R_g_23 : Row w23 (g) [.int .i64 4, .int .i64 0, .slice (some ⟨B3, 0, none⟩) 2 2] := by (repeat' (first | (with_reducible assumption) | (with_reducible refine Row.new' _ _ _ (by first | rfl | (simp; done) | omega)) | (with_reducible refine Row.alloc ?_ _) | (with_reducible refine Row.drew ?_) | (with_reducible refine Row.drewN ?_ _) | (with_reducible refine Row.step ?_ (by with_reducible assumption)) | (with_reducible refine Row.set2' ?_ _ _; first | exact ⟨_, _, by with_reducible assumption⟩ | exact ⟨_, _, Row.alloc (by with_reducible assumption) _⟩ | exact ⟨_, _, Row.alloc (Row.alloc (by with_reducible assumption) _) _⟩) | (with_reducible refine Row.other ?_ (by first | omega | (simp; done) | (simp; omega)) _)))
    have c_g_0_23 := R_g_23.cell 0 rfl
    have c_g_1_23 := R_g_23.cell 1 rfl
    have c_g_2_23 := R_g_23.cell 2 rfl
    have l_g_23 := R_g_23.lt
    have R_m_23 : Row w23 (B3) [.int .i64 2, .int .i64 10000, .slice none 0 0, .int .i64 6, .int .i64 0, .slice (some ⟨B2, 0, none⟩) 2 2] := by (repeat' (first | (with_reducible assumption) | (with_reducible refine Row.new' _ _ _ (by first | rfl | (simp; done) | omega)) | (with_reducible refine Row.alloc ?_ _) | (with_reducible refine Row.drew ?_) | (with_reducible refine Row.drewN ?_ _) | (with_reducible refine Row.step ?_ (by with_reducible assumption)) | (with_reducible refine Row.set2' ?_ _ _; first | exact ⟨_, _, by with_reducible assumption⟩ | exact ⟨_, _, Row.alloc (by with_reducible assumption) _⟩ | exact ⟨_, _, Row.alloc (Row.alloc (by with_reducible assumption) _) _⟩) | (with_reducible refine Row.other ?_ (by first | omega | (simp; done) | (simp; omega)) _)))
    have c_m_0_23 := R_m_23.cell 0 rfl
    have c_m_1_23 := R_m_23.cell 1 rfl
    have c_m_2_23 := R_m_23.cell 2 rfl
    have c_m_3_23 := R_m_23.cell 3 rfl
    have c_m_4_23 := R_m_23.cell 4 rfl
    have c_m_5_23 := R_m_23.cell 5 rfl
    have l_m_23 := R_m_23.lt
    have R_q_23 : Row w23 (B2) [.int .i64 2, .int .i64 2000, .slice none 0 0, .int .i64 3, .int .i64 2, .slice none 0 0] := by (repeat' (first | (with_reducible assumption) | (with_reducible refine Row.new' _ _ _ (by first | rfl | (simp; done) | omega)) | (with_reducible refine Row.alloc ?_ _) | (with_reducible refine Row.drew ?_) | (with_reducible refine Row.drewN ?_ _) | (with_reducible refine Row.step ?_ (by with_reducible assumption)) | (with_reducible refine Row.set2' ?_ _ _; first | exact ⟨_, _, by with_reducible assumption⟩ | exact ⟨_, _, Row.alloc (by with_reducible assumption) _⟩ | exact ⟨_, _, Row.alloc (Row.alloc (by with_reducible assumption) _) _⟩) | (with_reducible refine Row.other ?_ (by first | omega | (simp; done) | (simp; omega)) _)))
    have c_q_0_23 := R_q_23.cell 0 rfl
    have c_q_1_23 := R_q_23.cell 1 rfl
    have c_q_2_23 := R_q_23.cell 2 rfl
    have c_q_3_23 := R_q_23.cell 3 rfl
    have c_q_4_23 := R_q_23.cell 4 rfl
    have c_q_5_23 := R_q_23.cell 5 rfl
    have l_q_23 := R_q_23.lt
    have HB23 : Below w.heap.size w w23 := by (repeat' (first | (with_reducible exact Below.refl _ _) | (with_reducible assumption) | (with_reducible exact Bw.out (by with_reducible assumption)) | (with_reducible refine bw_alloc ?_ _) | (with_reducible refine bw_step ?_ (by with_reducible assumption)) | (with_reducible refine Below.alloc ?_ ?_ _) | (with_reducible refine Below.drew ?_) | (with_reducible refine below_drewN ?_ _) | (with_reducible refine Below.setCell ?_ ?_ _) | (with_reducible refine below_step ?_ (by with_reducible assumption) ?_) | (with_reducible exact Nat.le_refl _) | omega | (simp; omega) | (simp; done)))
    clear R_b_22 c_b_0_22 c_b_1_22 c_b_2_22 c_b_3_22 c_b_4_22 c_b_5_22 R_p_22 c_p_0_22 c_p_1_22 c_p_2_22 R_f_22 c_f_0_22 c_f_1_22 c_f_2_22 R_g_22 c_g_0_22 c_g_1_22 c_g_2_22 R_m_22 c_m_0_22 c_m_1_22 c_m_2_22 c_m_3_22 c_m_4_22 c_m_5_22 R_q_22 c_q_0_22 c_q_1_22 c_q_2_22 c_q_3_22 c_q_4_22 c_q_5_22 hb22 HB22
    go_wp2_with fail
    refine AnyJ.beginP (fun w' : World => w'.cell? ⟨w3.heap.size, 0, none⟩ = some (.int .i64 3) ∧ w'.cell? ⟨w3.heap.size, 1, none⟩ = some (.int .i64 1) ∧ w'.cell? ⟨w3.heap.size, 2, none⟩ = some (.slice none 0 0) ∧ w'.cell? ⟨w3.heap.size, 3, none⟩ = some (.int .i64 1) ∧ w'.cell? ⟨w3.heap.size, 4, none⟩ = some (.int .i64 5) ∧ w'.cell? ⟨w3.heap.size, 5, none⟩ = some (.slice none 0 0) ∧ w'.cell? ⟨w4.heap.size, 0, none⟩ = some (.int .i64 3) ∧ w'.cell? ⟨w4.heap.size, 1, none⟩ = some (.int .i64 2) ∧ w'.cell? ⟨w4.heap.size, 2, none⟩ = some (.slice none 0 0) ∧ w'.cell? ⟨w4.heap.size + 1, 0, none⟩ = some (.int .i64 11) ∧ w'.cell? ⟨w4.heap.size + 1, 1, none⟩ = some (.int .i64 0) ∧ w'.cell? ⟨w4.heap.size + 1, 2, none⟩ = some (.slice (some ⟨w3.heap.size, 0, none⟩) 2 2)) (fun _ => true) (by kernel_rfl) ?_ (fun hS23 => ?_)
    · exact (show ∀ (P S : World → Prop) (W : World), P W → (∀ w', P w' → S w') → S W from fun P S W h f => f W h) (fun w' : World => Row w' (w3.heap.size) [.int .i64 3, .int .i64 1, .slice none 0 0, .int .i64 1, .int .i64 5, .slice none 0 0] ∧ Row w' (w4.heap.size) [.int .i64 3, .int .i64 2, .slice none 0 0] ∧ Row w' (w4.heap.size + 1) [.int .i64 11, .int .i64 0, .slice (some ⟨w3.heap.size, 0, none⟩) 2 2]) (fun w' : World => w'.cell? ⟨w3.heap.size, 0, none⟩ = some (.int .i64 3) ∧ w'.cell? ⟨w3.heap.size, 1, none⟩ = some (.int .i64 1) ∧ w'.cell? ⟨w3.heap.size, 2, none⟩ = some (.slice none 0 0) ∧ w'.cell? ⟨w3.heap.size, 3, none⟩ = some (.int .i64 1) ∧ w'.cell? ⟨w3.heap.size, 4, none⟩ = some (.int .i64 5) ∧ w'.cell? ⟨w3.heap.size, 5, none⟩ = some (.slice none 0 0) ∧ w'.cell? ⟨w4.heap.size, 0, none⟩ = some (.int .i64 3) ∧ w'.cell? ⟨w4.heap.size, 1, none⟩ = some (.int .i64 2) ∧ w'.cell? ⟨w4.heap.size, 2, none⟩ = some (.slice none 0 0) ∧ w'.cell? ⟨w4.heap.size + 1, 0, none⟩ = some (.int .i64 11) ∧ w'.cell? ⟨w4.heap.size + 1, 1, none⟩ = some (.int .i64 0) ∧ w'.cell? ⟨w4.heap.size + 1, 2, none⟩ = some (.slice (some ⟨w3.heap.size, 0, none⟩) 2 2)) _ (⟨by (repeat' (first | (with_reducible assumption) | (with_reducible refine Row.new' _ _ _ (by first | rfl | (simp; done) | omega)) | (with_reducible refine Row.alloc ?_ _) | (with_reducible refine Row.drew ?_) | (with_reducible refine Row.drewN ?_ _) | (with_reducible refine Row.step ?_ (by with_reducible assumption)) | (with_reducible refine Row.set2' ?_ _ _; first | exact ⟨_, _, by with_reducible assumption⟩ | exact ⟨_, _, Row.alloc (by with_reducible assumption) _⟩ | exact ⟨_, _, Row.alloc (Row.alloc (by with_reducible assumption) _) _⟩) | (with_reducible refine Row.other ?_ (by first | omega | (simp; done) | (simp; omega)) _))), by (repeat' (first | (with_reducible assumption) | (with_reducible refine Row.new' _ _ _ (by first | rfl | (simp; done) | omega)) | (with_reducible refine Row.alloc ?_ _) | (with_reducible refine Row.drew ?_) | (with_reducible refine Row.drewN ?_ _) | (with_reducible refine Row.step ?_ (by with_reducible assumption)) | (with_reducible refine Row.set2' ?_ _ _; first | exact ⟨_, _, by with_reducible assumption⟩ | exact ⟨_, _, Row.alloc (by with_reducible assumption) _⟩ | exact ⟨_, _, Row.alloc (Row.alloc (by with_reducible assumption) _) _⟩) | (with_reducible refine Row.other ?_ (by first | omega | (simp; done) | (simp; omega)) _))), by (repeat' (first | (with_reducible assumption) | (with_reducible refine Row.new' _ _ _ (by first | rfl | (simp; done) | omega)) | (with_reducible refine Row.alloc ?_ _) | (with_reducible refine Row.drew ?_) | (with_reducible refine Row.drewN ?_ _) | (with_reducible refine Row.step ?_ (by with_reducible assumption)) | (with_reducible refine Row.set2' ?_ _ _; first | exact ⟨_, _, by with_reducible assumption⟩ | exact ⟨_, _, Row.alloc (by with_reducible assumption) _⟩ | exact ⟨_, _, Row.alloc (Row.alloc (by with_reducible assumption) _) _⟩) | (with_reducible refine Row.other ?_ (by first | omega | (simp; done) | (simp; omega)) _)))⟩) (fun w' ⟨hP0, hP1, hP2⟩ => ⟨hP0.cell 0 rfl, hP0.cell 1 rfl, hP0.cell 2 rfl, hP0.cell 3 rfl, hP0.cell 4 rfl, hP0.cell 5 rfl, hP1.cell 0 rfl, hP1.cell 1 rfl, hP1.cell 2 rfl, hP2.cell 0 rfl, hP2.cell 1 rfl, hP2.cell 2 rfl⟩)
    obtain ⟨w24, hw24⟩ : ∃ x, World.drew w23 = x := ⟨_, rfl⟩
    rw [hw24] at hS23 ⊢
    have hb24 : Below w23.heap.size w23 w24 := by rw [← hw24]; exact (Below.refl _ _).drew
    have R_b_24 := R_b_23.step hb24
    have c_b_0_24 := R_b_24.cell 0 rfl
    have c_b_1_24 := R_b_24.cell 1 rfl
    have c_b_2_24 := R_b_24.cell 2 rfl
    have c_b_3_24 := R_b_24.cell 3 rfl
    have c_b_4_24 := R_b_24.cell 4 rfl
    have c_b_5_24 := R_b_24.cell 5 rfl
    have l_b_24 := R_b_24.lt
    have R_p_24 := R_p_23.step hb24
    have c_p_0_24 := R_p_24.cell 0 rfl
    have c_p_1_24 := R_p_24.cell 1 rfl
    have c_p_2_24 := R_p_24.cell 2 rfl
    have l_p_24 := R_p_24.lt
    have R_f_24 := R_f_23.step hb24
    have c_f_0_24 := R_f_24.cell 0 rfl
    have c_f_1_24 := R_f_24.cell 1 rfl
    have c_f_2_24 := R_f_24.cell 2 rfl
    have l_f_24 := R_f_24.lt
    have HB24 := HB23.trans (hb24.mono HB23.size)
    have hs24 := hb24.size
    have hz24 := HB24.size
    clear R_b_23 c_b_0_23 c_b_1_23 c_b_2_23 c_b_3_23 c_b_4_23 c_b_5_23 R_p_23 c_p_0_23 c_p_1_23 c_p_2_23 R_f_23 c_f_0_23 c_f_1_23 c_f_2_23 R_g_23 c_g_0_23 c_g_1_23 c_g_2_23 R_m_23 c_m_0_23 c_m_1_23 c_m_2_23 c_m_3_23 c_m_4_23 c_m_5_23 R_q_23 c_q_0_23 c_q_1_23 c_q_2_23 c_q_3_23 c_q_4_23 c_q_5_23 hb23 HB23
    refine AnyJ.takeD (i := 0) (d := some 45) (v := ?_) rfl (by kernel_rfl) (by kernel_rfl) (by kernel_rfl) (by kernel_rfl) (by kernel_rfl) (fun _ _ _ h => h) (Or.inl ⟨by kernel_rfl, ?_⟩) hS23 ?_
    rotate_left
    · intro w' hS
      obtain ⟨sF0, sF1, sF2, sF3, sF4, sF5, sF6, sF7, sF8, sF9, sF10, sF11⟩ := hS
      go_simp
      try with_reducible rfl
    refine AnyJ.one (i := 1) (by kernel_rfl) rfl (fun Kz hKz => ?_)
    go_simp
    refine (leaf_any 1 1 _).mono ?_
    rintro e w25 ⟨rfl, hb25⟩
    have R_b_25 := R_b_24.step hb25
    have c_b_0_25 := R_b_25.cell 0 rfl
    have c_b_1_25 := R_b_25.cell 1 rfl
    have c_b_2_25 := R_b_25.cell 2 rfl
    have c_b_3_25 := R_b_25.cell 3 rfl
    have c_b_4_25 := R_b_25.cell 4 rfl
    have c_b_5_25 := R_b_25.cell 5 rfl
    have l_b_25 := R_b_25.lt
    have R_p_25 := R_p_24.step hb25
    have c_p_0_25 := R_p_25.cell 0 rfl
    have c_p_1_25 := R_p_25.cell 1 rfl
    have c_p_2_25 := R_p_25.cell 2 rfl
    have l_p_25 := R_p_25.lt
    have R_f_25 := R_f_24.step hb25
    have c_f_0_25 := R_f_25.cell 0 rfl
    have c_f_1_25 := R_f_25.cell 1 rfl
    have c_f_2_25 := R_f_25.cell 2 rfl
    have l_f_25 := R_f_25.lt
    have HB25 := HB24.trans (hb25.mono HB24.size)
    have hz25 := HB25.size
    have hS25 := And.intro c_b_0_25 (And.intro c_b_1_25 (And.intro c_b_2_25 (And.intro c_b_3_25 (And.intro c_b_4_25 (And.intro c_b_5_25 (And.intro c_p_0_25 (And.intro c_p_1_25 (And.intro c_p_2_25 (And.intro c_f_0_25 (And.intro c_f_1_25 (c_f_2_25)))))))))))
    refine hKz _ _ (fun _ => hS25) ?_
    clear hKz Kz hS23
    clear R_b_24 c_b_0_24 c_b_1_24 c_b_2_24 c_b_3_24 c_b_4_24 c_b_5_24 R_p_24 c_p_0_24 c_p_1_24 c_p_2_24 R_f_24 c_f_0_24 c_f_1_24 c_f_2_24 hb24 hw24
    refine AnyJ.one (i := 2) (by kernel_rfl) rfl (fun Kz hKz => ?_)
    go_simp
    refine (leaf_any 1 2 _).mono ?_
    rintro e w26 ⟨rfl, hb26⟩
    have R_b_26 := R_b_25.step hb26
    have c_b_0_26 := R_b_26.cell 0 rfl
    have c_b_1_26 := R_b_26.cell 1 rfl
    have c_b_2_26 := R_b_26.cell 2 rfl
    have c_b_3_26 := R_b_26.cell 3 rfl
    have c_b_4_26 := R_b_26.cell 4 rfl
    have c_b_5_26 := R_b_26.cell 5 rfl
    have l_b_26 := R_b_26.lt
    have R_p_26 := R_p_25.step hb26
    have c_p_0_26 := R_p_26.cell 0 rfl
    have c_p_1_26 := R_p_26.cell 1 rfl
    have c_p_2_26 := R_p_26.cell 2 rfl
    have l_p_26 := R_p_26.lt
    have R_f_26 := R_f_25.step hb26
    have c_f_0_26 := R_f_26.cell 0 rfl
    have c_f_1_26 := R_f_26.cell 1 rfl
    have c_f_2_26 := R_f_26.cell 2 rfl
    have l_f_26 := R_f_26.lt
    have HB26 := HB25.trans (hb26.mono HB25.size)
    have hz26 := HB26.size
    have hS26 := And.intro c_b_0_26 (And.intro c_b_1_26 (And.intro c_b_2_26 (And.intro c_b_3_26 (And.intro c_b_4_26 (And.intro c_b_5_26 (And.intro c_p_0_26 (And.intro c_p_1_26 (And.intro c_p_2_26 (And.intro c_f_0_26 (And.intro c_f_1_26 (c_f_2_26)))))))))))
    refine hKz _ _ (fun _ => hS26) ?_
    clear hKz Kz hS25
    clear R_b_25 c_b_0_25 c_b_1_25 c_b_2_25 c_b_3_25 c_b_4_25 c_b_5_25 R_p_25 c_p_0_25 c_p_1_25 c_p_2_25 R_f_25 c_f_0_25 c_f_1_25 c_f_2_25 hb25
    refine AnyJ.one (i := 3) (by kernel_rfl) rfl (fun Kz hKz => ?_)
    go_simp
    generalize hw27 : World.alloc w26 _ = w27
    have hb27 : Below w26.heap.size w26 w27 := by rw [← hw27]; exact (Below.refl _ _).alloc (Nat.le_refl _) _
    have R_b_27 := R_b_26.step hb27
    have c_b_0_27 := R_b_27.cell 0 rfl
    have c_b_1_27 := R_b_27.cell 1 rfl
    have c_b_2_27 := R_b_27.cell 2 rfl
    have c_b_3_27 := R_b_27.cell 3 rfl
    have c_b_4_27 := R_b_27.cell 4 rfl
    have c_b_5_27 := R_b_27.cell 5 rfl
    have l_b_27 := R_b_27.lt
    have R_p_27 := R_p_26.step hb27
    have c_p_0_27 := R_p_27.cell 0 rfl
    have c_p_1_27 := R_p_27.cell 1 rfl
    have c_p_2_27 := R_p_27.cell 2 rfl
    have l_p_27 := R_p_27.lt
    have R_f_27 := R_f_26.step hb27
    have c_f_0_27 := R_f_27.cell 0 rfl
    have c_f_1_27 := R_f_27.cell 1 rfl
    have c_f_2_27 := R_f_27.cell 2 rfl
    have l_f_27 := R_f_27.lt
    have R_h_27 : Row w27 (w26.heap.size) [.int .i64 11, .int .i64 0, .slice (some ⟨w3.heap.size, 0, none⟩) 2 2, .int .i64 1, .int .i64 1, .slice none 0 0, .int .i64 1, .int .i64 2, .slice none 0 0] := by rw [← hw27]; exact Row.new' _ _ _ rfl
    have l_h_27 := R_h_27.lt
    have HB27 := HB26.trans (hb27.mono HB26.size)
    have hs27 := hb27.size
    have hz27 := HB27.size
    have hS27 := And.intro c_b_0_27 (And.intro c_b_1_27 (And.intro c_b_2_27 (And.intro c_b_3_27 (And.intro c_b_4_27 (And.intro c_b_5_27 (And.intro c_p_0_27 (And.intro c_p_1_27 (And.intro c_p_2_27 (And.intro c_f_0_27 (And.intro c_f_1_27 (c_f_2_27)))))))))))
    refine hKz _ _ (fun _ => hS27) ?_
    clear hKz Kz hS26
    clear R_b_26 c_b_0_26 c_b_1_26 c_b_2_26 c_b_3_26 c_b_4_26 c_b_5_26 R_p_26 c_p_0_26 c_p_1_26 c_p_2_26 R_f_26 c_f_0_26 c_f_1_26 c_f_2_26 hb26
    refine AnyJ.one (i := 4) (by kernel_rfl) rfl (fun Kz hKz => ?_)
    go_simp
    refine (node_any 10 _ 3 3 _).mono ?_
    rintro e w28 ⟨rfl, hb28⟩
    have R_b_28 := R_b_27.step hb28
    have c_b_0_28 := R_b_28.cell 0 rfl
    have c_b_1_28 := R_b_28.cell 1 rfl
    have c_b_2_28 := R_b_28.cell 2 rfl
    have c_b_3_28 := R_b_28.cell 3 rfl
    have c_b_4_28 := R_b_28.cell 4 rfl
    have c_b_5_28 := R_b_28.cell 5 rfl
    have l_b_28 := R_b_28.lt
    have R_p_28 := R_p_27.step hb28
    have c_p_0_28 := R_p_28.cell 0 rfl
    have c_p_1_28 := R_p_28.cell 1 rfl
    have c_p_2_28 := R_p_28.cell 2 rfl
    have l_p_28 := R_p_28.lt
    have R_f_28 := R_f_27.step hb28
    have c_f_0_28 := R_f_28.cell 0 rfl
    have c_f_1_28 := R_f_28.cell 1 rfl
    have c_f_2_28 := R_f_28.cell 2 rfl
    have l_f_28 := R_f_28.lt
    have R_h_28 := R_h_27.step hb28
    have l_h_28 := R_h_28.lt
    have HB28 := HB27.trans (hb28.mono HB27.size)
    have hz28 := HB28.size
    have hS28 := And.intro c_b_0_28 (And.intro c_b_1_28 (And.intro c_b_2_28 (And.intro c_b_3_28 (And.intro c_b_4_28 (And.intro c_b_5_28 (And.intro c_p_0_28 (And.intro c_p_1_28 (And.intro c_p_2_28 (And.intro c_f_0_28 (And.intro c_f_1_28 (c_f_2_28)))))))))))
    refine hKz _ _ (fun _ => hS28) ?_
    clear hKz Kz hS27
    clear R_b_27 c_b_0_27 c_b_1_27 c_b_2_27 c_b_3_27 c_b_4_27 c_b_5_27 R_p_27 c_p_0_27 c_p_1_27 c_p_2_27 R_f_27 c_f_0_27 c_f_1_27 c_f_2_27 R_h_27 hb27 hw27
    refine AnyJ.one (i := 5) (by kernel_rfl) rfl (fun Kz hKz => ?_)
    go_simp
    refine (infer_pe (nd 10 (w26.heap.size) [nd 11 w3.heap.size [lf 3 1, lf 1 5], lf 1 1, lf 1 2]) _ (nd_row3 R_h_28 10 (nd 11 w3.heap.size [lf 3 1, lf 1 5]) (lf 1 1) (lf 1 2) rfl (nd_row2 R_b_28 11 (lf 3 1) (lf 1 5) rfl (lf_in _ _ _) (lf_in _ _ _)) (lf_in _ _ _) (lf_in _ _ _)) 1 0 (e_if _ _)).mono ?_
    rintro e w29 ⟨rfl, hb29⟩
    have R_b_29 := R_b_28.step hb29
    have c_b_0_29 := R_b_29.cell 0 rfl
    have c_b_1_29 := R_b_29.cell 1 rfl
    have c_b_2_29 := R_b_29.cell 2 rfl
    have c_b_3_29 := R_b_29.cell 3 rfl
    have c_b_4_29 := R_b_29.cell 4 rfl
    have c_b_5_29 := R_b_29.cell 5 rfl
    have l_b_29 := R_b_29.lt
    have R_p_29 := R_p_28.step hb29
    have c_p_0_29 := R_p_29.cell 0 rfl
    have c_p_1_29 := R_p_29.cell 1 rfl
    have c_p_2_29 := R_p_29.cell 2 rfl
    have l_p_29 := R_p_29.lt
    have R_f_29 := R_f_28.step hb29
    have c_f_0_29 := R_f_29.cell 0 rfl
    have c_f_1_29 := R_f_29.cell 1 rfl
    have c_f_2_29 := R_f_29.cell 2 rfl
    have l_f_29 := R_f_29.lt
    have R_h_29 := R_h_28.step hb29
    have l_h_29 := R_h_29.lt
    have HB29 := HB28.trans (hb29.mono HB28.size)
    have hz29 := HB29.size
    have hS29 := And.intro c_b_0_29 (And.intro c_b_1_29 (And.intro c_b_2_29 (And.intro c_b_3_29 (And.intro c_b_4_29 (And.intro c_b_5_29 (And.intro c_p_0_29 (And.intro c_p_1_29 (And.intro c_p_2_29 (And.intro c_f_0_29 (And.intro c_f_1_29 (c_f_2_29)))))))))))
    refine hKz _ _ (fun _ => hS29) ?_
    clear hKz Kz hS28
    clear R_b_28 c_b_0_28 c_b_1_28 c_b_2_28 c_b_3_28 c_b_4_28 c_b_5_28 R_p_28 c_p_0_28 c_p_1_28 c_p_2_28 R_f_28 c_f_0_28 c_f_1_28 c_f_2_28 R_h_28 hb28
    refine AnyJ.takeD (i := 6) (d := some 44) (v := ?_) rfl (by kernel_rfl) (by kernel_rfl) (by kernel_rfl) (by kernel_rfl) (by kernel_rfl) (fun _ _ _ h => h) (Or.inl ⟨by kernel_rfl, ?_⟩) hS29 ?_
    rotate_left
    · intro w' hS
      clear hS
      go_simp
      try with_reducible rfl
    refine AnyJ.takeD (i := 7) (d := some 51) (v := ?_) rfl (by kernel_rfl) (by kernel_rfl) (by kernel_rfl) (by kernel_rfl) (by kernel_rfl) (fun _ _ _ h => h) (Or.inl ⟨by kernel_rfl, ?_⟩) hS29 ?_
    rotate_left
    · intro w' hS
      clear hS
      go_simp
      try with_reducible rfl
    refine AnyJ.takeD (i := 8) (d := some 52) (v := ?_) rfl (by kernel_rfl) (by kernel_rfl) (by kernel_rfl) (by kernel_rfl) (by kernel_rfl) (fun _ _ _ h => h) (Or.inl ⟨by kernel_rfl, ?_⟩) hS29 ?_
    rotate_left
    · intro w' hS
      clear hS
      go_simp
      try with_reducible rfl
    refine AnyJ.takeD (i := 9) (d := some 8) (v := ?_) rfl (by kernel_rfl) (by kernel_rfl) (by kernel_rfl) (by kernel_rfl) (by kernel_rfl) (fun _ _ _ h => h) (Or.inl ⟨by kernel_rfl, ?_⟩) hS29 ?_
    rotate_left
    · intro w' hS
      clear hS
      go_simp
      try with_reducible rfl
    refine AnyJ.takeD (i := 10) (d := some 9) (v := ?_) rfl (by kernel_rfl) (by kernel_rfl) (by kernel_rfl) (by kernel_rfl) (by kernel_rfl) (fun _ _ _ h => h) (Or.inl ⟨by kernel_rfl, ?_⟩) hS29 ?_
    rotate_left
    · intro w' hS
      clear hS
      go_simp
      try with_reducible rfl
    refine AnyJ.done (by kernel_rfl) ?_ _
    clear hS29
    try simp only [Act.put, List.setIfInBounds_toArray, List.set_cons_zero, List.set_cons_succ]
    go_wp2_with fail
    go_wp2_with fail
    refine (leaf_any 2 100 _).mono ?_
    rintro e w30 ⟨rfl, hb30⟩
    have R_p_30 : Row w30 (w4.heap.size) [.int .i64 3, .int .i64 2, .slice none 0 0] := by (repeat' (first | (with_reducible assumption) | (with_reducible refine Row.new' _ _ _ (by first | rfl | (simp; done) | omega)) | (with_reducible refine Row.alloc ?_ _) | (with_reducible refine Row.drew ?_) | (with_reducible refine Row.drewN ?_ _) | (with_reducible refine Row.step ?_ (by with_reducible assumption)) | (with_reducible refine Row.set2' ?_ _ _; first | exact ⟨_, _, by with_reducible assumption⟩ | exact ⟨_, _, Row.alloc (by with_reducible assumption) _⟩ | exact ⟨_, _, Row.alloc (Row.alloc (by with_reducible assumption) _) _⟩) | (with_reducible refine Row.other ?_ (by first | omega | (simp; done) | (simp; omega)) _)))
    have c_p_0_30 := R_p_30.cell 0 rfl
    have c_p_1_30 := R_p_30.cell 1 rfl
    have c_p_2_30 := R_p_30.cell 2 rfl
    have l_p_30 := R_p_30.lt
    have HB30 : Below w.heap.size w w30 := by (repeat' (first | (with_reducible exact Below.refl _ _) | (with_reducible assumption) | (with_reducible exact Bw.out (by with_reducible assumption)) | (with_reducible refine bw_alloc ?_ _) | (with_reducible refine bw_step ?_ (by with_reducible assumption)) | (with_reducible refine Below.alloc ?_ ?_ _) | (with_reducible refine Below.drew ?_) | (with_reducible refine below_drewN ?_ _) | (with_reducible refine Below.setCell ?_ ?_ _) | (with_reducible refine below_step ?_ (by with_reducible assumption) ?_) | (with_reducible exact Nat.le_refl _) | omega | (simp; omega) | (simp; done)))
    clear R_b_29 c_b_0_29 c_b_1_29 c_b_2_29 c_b_3_29 c_b_4_29 c_b_5_29 R_p_29 c_p_0_29 c_p_1_29 c_p_2_29 R_f_29 c_f_0_29 c_f_1_29 c_f_2_29 R_h_29 hb29
    go_wp2_with fail
    obtain ⟨w31, hw31⟩ : ∃ x, World.alloc w30 (.cells #[.int .i64 2, .int .i64 100, .slice none 0 0] 24) = x := ⟨_, rfl⟩
    rw [hw31]
    have hb31 : Below w30.heap.size w30 w31 := by rw [← hw31]; (repeat' (first | (with_reducible exact Below.refl _ _) | (with_reducible assumption) | (with_reducible exact Bw.out (by with_reducible assumption)) | (with_reducible refine bw_alloc ?_ _) | (with_reducible refine bw_step ?_ (by with_reducible assumption)) | (with_reducible refine Below.alloc ?_ ?_ _) | (with_reducible refine Below.drew ?_) | (with_reducible refine below_drewN ?_ _) | (with_reducible refine Below.setCell ?_ ?_ _) | (with_reducible refine below_step ?_ (by with_reducible assumption) ?_) | (with_reducible exact Nat.le_refl _) | omega | (simp; omega) | (simp; done)))
    have R_p_31 : Row w31 (w4.heap.size) [.int .i64 3, .int .i64 2, .slice none 0 0] := by rw [← hw31]; (repeat' (first | (with_reducible assumption) | (with_reducible refine Row.new' _ _ _ (by first | rfl | (simp; done) | omega)) | (with_reducible refine Row.alloc ?_ _) | (with_reducible refine Row.drew ?_) | (with_reducible refine Row.drewN ?_ _) | (with_reducible refine Row.step ?_ (by with_reducible assumption)) | (with_reducible refine Row.set2' ?_ _ _; first | exact ⟨_, _, by with_reducible assumption⟩ | exact ⟨_, _, Row.alloc (by with_reducible assumption) _⟩ | exact ⟨_, _, Row.alloc (Row.alloc (by with_reducible assumption) _) _⟩) | (with_reducible refine Row.other ?_ (by first | omega | (simp; done) | (simp; omega)) _)))
    have c_p_0_31 := R_p_31.cell 0 rfl
    have c_p_1_31 := R_p_31.cell 1 rfl
    have c_p_2_31 := R_p_31.cell 2 rfl
    have l_p_31 := R_p_31.lt
    have R_o_31 : Row w31 (w30.heap.size) [.int .i64 2, .int .i64 100, .slice none 0 0] := by rw [← hw31]; (repeat' (first | (with_reducible assumption) | (with_reducible refine Row.new' _ _ _ (by first | rfl | (simp; done) | omega)) | (with_reducible refine Row.alloc ?_ _) | (with_reducible refine Row.drew ?_) | (with_reducible refine Row.drewN ?_ _) | (with_reducible refine Row.step ?_ (by with_reducible assumption)) | (with_reducible refine Row.set2' ?_ _ _; first | exact ⟨_, _, by with_reducible assumption⟩ | exact ⟨_, _, Row.alloc (by with_reducible assumption) _⟩ | exact ⟨_, _, Row.alloc (Row.alloc (by with_reducible assumption) _) _⟩) | (with_reducible refine Row.other ?_ (by first | omega | (simp; done) | (simp; omega)) _)))
    have c_o_0_31 := R_o_31.cell 0 rfl
    have c_o_1_31 := R_o_31.cell 1 rfl
    have c_o_2_31 := R_o_31.cell 2 rfl
    have l_o_31 := R_o_31.lt
    have HB31 := HB30.trans (hb31.mono HB30.size)
    have hs31 := hb31.size
    have hz31 := HB31.size
    clear R_p_30 c_p_0_30 c_p_1_30 c_p_2_30 hb30 HB30
    go_cut [91, 92, 93] from 76 to 90 (fun s v i wx => ∃ D D0 D1 D2 D3 : Nat, s = .slice (some ⟨D, 0, none⟩) 4 4 ∧ v = .int .i64 4 ∧ i = .int .i64 0 ∧ Row wx (D) [.int .i64 4, .int .i64 0, .slice (some ⟨D0, 0, none⟩) 2 2, .int .i64 6, .int .i64 0, .slice (some ⟨D1, 0, none⟩) 2 2, .int .i64 15, .int .i64 0, .slice (some ⟨D2, 0, none⟩) 1 1, .int .i64 7, .int .i64 0, .slice (some ⟨D3, 0, none⟩) 2 2] ∧ Row wx (D0) [.int .i64 2, .int .i64 100, .slice none 0 0, .int .i64 3, .int .i64 2, .slice none 0 0] ∧ Row wx (D1) [.int .i64 2, .int .i64 100, .slice none 0 0, .int .i64 2, .int .i64 100, .slice none 0 0] ∧ Row wx (D2) [.int .i64 1, .int .i64 1, .slice none 0 0] ∧ Row wx (D3) [.int .i64 1, .int .i64 1, .slice none 0 0, .int .i64 2, .int .i64 100, .slice none 0 0] ∧ Below w.heap.size w wx)
    case first =>
      refine AnyJ.beginP (fun w' : World => w'.cell? ⟨w4.heap.size, 0, none⟩ = some (.int .i64 3) ∧ w'.cell? ⟨w4.heap.size, 1, none⟩ = some (.int .i64 2) ∧ w'.cell? ⟨w4.heap.size, 2, none⟩ = some (.slice none 0 0) ∧ w'.cell? ⟨w30.heap.size, 0, none⟩ = some (.int .i64 2) ∧ w'.cell? ⟨w30.heap.size, 1, none⟩ = some (.int .i64 100) ∧ w'.cell? ⟨w30.heap.size, 2, none⟩ = some (.slice none 0 0)) (fun _ => true) (by kernel_rfl) ?_ (fun hS31 => ?_)
      · exact (show ∀ (P S : World → Prop) (W : World), P W → (∀ w', P w' → S w') → S W from fun P S W h f => f W h) (fun w' : World => Row w' (w4.heap.size) [.int .i64 3, .int .i64 2, .slice none 0 0] ∧ Row w' (w30.heap.size) [.int .i64 2, .int .i64 100, .slice none 0 0]) (fun w' : World => w'.cell? ⟨w4.heap.size, 0, none⟩ = some (.int .i64 3) ∧ w'.cell? ⟨w4.heap.size, 1, none⟩ = some (.int .i64 2) ∧ w'.cell? ⟨w4.heap.size, 2, none⟩ = some (.slice none 0 0) ∧ w'.cell? ⟨w30.heap.size, 0, none⟩ = some (.int .i64 2) ∧ w'.cell? ⟨w30.heap.size, 1, none⟩ = some (.int .i64 100) ∧ w'.cell? ⟨w30.heap.size, 2, none⟩ = some (.slice none 0 0)) _ (⟨by (repeat' (first | (with_reducible assumption) | (with_reducible refine Row.new' _ _ _ (by first | rfl | (simp; done) | omega)) | (with_reducible refine Row.alloc ?_ _) | (with_reducible refine Row.drew ?_) | (with_reducible refine Row.drewN ?_ _) | (with_reducible refine Row.step ?_ (by with_reducible assumption)) | (with_reducible refine Row.set2' ?_ _ _; first | exact ⟨_, _, by with_reducible assumption⟩ | exact ⟨_, _, Row.alloc (by with_reducible assumption) _⟩ | exact ⟨_, _, Row.alloc (Row.alloc (by with_reducible assumption) _) _⟩) | (with_reducible refine Row.other ?_ (by first | omega | (simp; done) | (simp; omega)) _))), by (repeat' (first | (with_reducible assumption) | (with_reducible refine Row.new' _ _ _ (by first | rfl | (simp; done) | omega)) | (with_reducible refine Row.alloc ?_ _) | (with_reducible refine Row.drew ?_) | (with_reducible refine Row.drewN ?_ _) | (with_reducible refine Row.step ?_ (by with_reducible assumption)) | (with_reducible refine Row.set2' ?_ _ _; first | exact ⟨_, _, by with_reducible assumption⟩ | exact ⟨_, _, Row.alloc (by with_reducible assumption) _⟩ | exact ⟨_, _, Row.alloc (Row.alloc (by with_reducible assumption) _) _⟩) | (with_reducible refine Row.other ?_ (by first | omega | (simp; done) | (simp; omega)) _)))⟩) (fun w' ⟨hP0, hP1⟩ => ⟨hP0.cell 0 rfl, hP0.cell 1 rfl, hP0.cell 2 rfl, hP1.cell 0 rfl, hP1.cell 1 rfl, hP1.cell 2 rfl⟩)
      obtain ⟨w32, hw32⟩ : ∃ x, World.drew w31 = x := ⟨_, rfl⟩
      rw [hw32] at hS31 ⊢
      have hb32 : Below w31.heap.size w31 w32 := by rw [← hw32]; exact (Below.refl _ _).drew
      have R_p_32 := R_p_31.step hb32
      have c_p_0_32 := R_p_32.cell 0 rfl
      have c_p_1_32 := R_p_32.cell 1 rfl
      have c_p_2_32 := R_p_32.cell 2 rfl
      have l_p_32 := R_p_32.lt
      have R_o_32 := R_o_31.step hb32
      have c_o_0_32 := R_o_32.cell 0 rfl
      have c_o_1_32 := R_o_32.cell 1 rfl
      have c_o_2_32 := R_o_32.cell 2 rfl
      have l_o_32 := R_o_32.lt
      have HB32 := HB31.trans (hb32.mono HB31.size)
      have hs32 := hb32.size
      have hz32 := HB32.size
      clear R_p_31 c_p_0_31 c_p_1_31 c_p_2_31 R_o_31 c_o_0_31 c_o_1_31 c_o_2_31 hb31 hw31
      refine AnyJ.takeD (i := 0) (d := some 76) (v := ?_) rfl (by kernel_rfl) (by kernel_rfl) (by kernel_rfl) (by kernel_rfl) (by kernel_rfl) (fun _ _ _ h => h) (Or.inl ⟨by kernel_rfl, ?_⟩) hS31 ?_
      rotate_left
      · intro w' hS
        obtain ⟨sF0, sF1, sF2, sF3, sF4, sF5⟩ := hS
        go_simp
        try with_reducible rfl
      refine AnyJ.takeD (i := 1) (d := some 77) (v := ?_) rfl (by kernel_rfl) (by kernel_rfl) (by kernel_rfl) (by kernel_rfl) (by kernel_rfl) (fun _ _ _ h => h) (Or.inl ⟨by kernel_rfl, ?_⟩) hS31 ?_
      rotate_left
      · intro w' hS
        obtain ⟨sF0, sF1, sF2, sF3, sF4, sF5⟩ := hS
        go_simp
        try with_reducible rfl
      refine AnyJ.takeD (i := 4) (d := some 80) (v := ?_) rfl (by kernel_rfl) (by kernel_rfl) (by kernel_rfl) (by kernel_rfl) (by kernel_rfl) (fun _ _ _ h => h) (Or.inl ⟨by kernel_rfl, ?_⟩) hS31 ?_
      rotate_left
      · intro w' hS
        obtain ⟨sF0, sF1, sF2, sF3, sF4, sF5⟩ := hS
        go_simp
        try with_reducible rfl
      refine AnyJ.takeD (i := 5) (d := some 81) (v := ?_) rfl (by kernel_rfl) (by kernel_rfl) (by kernel_rfl) (by kernel_rfl) (by kernel_rfl) (fun _ _ _ h => h) (Or.inl ⟨by kernel_rfl, ?_⟩) hS31 ?_
      rotate_left
      · intro w' hS
        obtain ⟨sF0, sF1, sF2, sF3, sF4, sF5⟩ := hS
        go_simp
        try with_reducible rfl
      refine AnyJ.takeD (i := 12) (d := some 88) (v := ?_) rfl (by kernel_rfl) (by kernel_rfl) (by kernel_rfl) (by kernel_rfl) (by kernel_rfl) (fun _ _ _ h => h) (Or.inl ⟨by kernel_rfl, ?_⟩) hS31 ?_
      rotate_left
      · intro w' hS
        obtain ⟨sF0, sF1, sF2, sF3, sF4, sF5⟩ := hS
        go_simp
        try with_reducible rfl
      refine AnyJ.takeD (i := 17) (d := some 93) (v := ?_) rfl (by kernel_rfl) (by kernel_rfl) (by kernel_rfl) (by kernel_rfl) (by kernel_rfl) (fun _ _ _ h => h) (Or.inl ⟨by kernel_rfl, ?_⟩) hS31 ?_
      rotate_left
      · intro w' hS
        clear hS
        go_simp
        try with_reducible rfl
      refine AnyJ.two (i := 2) (j := 6) (by kernel_rfl) rfl rfl (fun Kz hKz => ?_) (fun Kz hKz => ?_)
      ·
        go_simp
        generalize hw33 : World.alloc w32 _ = w33
        have hb33 : Below w32.heap.size w32 w33 := by rw [← hw33]; exact (Below.refl _ _).alloc (Nat.le_refl _) _
        have R_p_33 := R_p_32.step hb33
        have c_p_0_33 := R_p_33.cell 0 rfl
        have c_p_1_33 := R_p_33.cell 1 rfl
        have c_p_2_33 := R_p_33.cell 2 rfl
        have l_p_33 := R_p_33.lt
        have R_o_33 := R_o_32.step hb33
        have c_o_0_33 := R_o_33.cell 0 rfl
        have c_o_1_33 := R_o_33.cell 1 rfl
        have c_o_2_33 := R_o_33.cell 2 rfl
        have l_o_33 := R_o_33.lt
        have R_a_33 : Row w33 (w32.heap.size) [.int .i64 2, .int .i64 100, .slice none 0 0, .int .i64 3, .int .i64 2, .slice none 0 0] := by rw [← hw33]; exact Row.new' _ _ _ rfl
        have l_a_33 := R_a_33.lt
        have HB33 := HB32.trans (hb33.mono HB32.size)
        have hs33 := hb33.size
        have hz33 := HB33.size
        have hS33 := And.intro c_p_0_33 (And.intro c_p_1_33 (And.intro c_p_2_33 (And.intro c_o_0_33 (And.intro c_o_1_33 (c_o_2_33)))))
        refine hKz _ _ (fun _ => hS33) ?_
        clear hKz Kz hS31
        clear R_p_32 c_p_0_32 c_p_1_32 c_p_2_32 R_o_32 c_o_0_32 c_o_1_32 c_o_2_32 hb32 hw32
        refine AnyJ.two (i := 3) (j := 6) (by kernel_rfl) rfl rfl (fun Kz hKz => ?_) (fun Kz hKz => ?_)
        ·
          go_simp
          refine (node_any 4 _ 2 2 _).mono ?_
          rintro e w34 ⟨rfl, hb34⟩
          have R_p_34 := R_p_33.step hb34
          have c_p_0_34 := R_p_34.cell 0 rfl
          have c_p_1_34 := R_p_34.cell 1 rfl
          have c_p_2_34 := R_p_34.cell 2 rfl
          have l_p_34 := R_p_34.lt
          have R_o_34 := R_o_33.step hb34
          have c_o_0_34 := R_o_34.cell 0 rfl
          have c_o_1_34 := R_o_34.cell 1 rfl
          have c_o_2_34 := R_o_34.cell 2 rfl
          have l_o_34 := R_o_34.lt
          have R_a_34 := R_a_33.step hb34
          have l_a_34 := R_a_34.lt
          have HB34 := HB33.trans (hb34.mono HB33.size)
          have hs34 := hb34.size
          have hz34 := HB34.size
          have hS34 := And.intro c_p_0_34 (And.intro c_p_1_34 (And.intro c_p_2_34 (And.intro c_o_0_34 (And.intro c_o_1_34 (c_o_2_34)))))
          refine hKz _ _ (fun _ => hS34) ?_
          clear hKz Kz hS33
          clear R_p_33 c_p_0_33 c_p_1_33 c_p_2_33 R_o_33 c_o_0_33 c_o_1_33 c_o_2_33 R_a_33 hb33 hw33
          refine AnyJ.one (i := 6) (by kernel_rfl) rfl (fun Kz hKz => ?_)
          go_simp
          generalize hw35 : World.alloc w34 _ = w35
          have hb35 : Below w34.heap.size w34 w35 := by rw [← hw35]; exact (Below.refl _ _).alloc (Nat.le_refl _) _
          have R_p_35 := R_p_34.step hb35
          have c_p_0_35 := R_p_35.cell 0 rfl
          have c_p_1_35 := R_p_35.cell 1 rfl
          have c_p_2_35 := R_p_35.cell 2 rfl
          have l_p_35 := R_p_35.lt
          have R_o_35 := R_o_34.step hb35
          have c_o_0_35 := R_o_35.cell 0 rfl
          have c_o_1_35 := R_o_35.cell 1 rfl
          have c_o_2_35 := R_o_35.cell 2 rfl
          have l_o_35 := R_o_35.lt
          have R_a_35 := R_a_34.step hb35
          have l_a_35 := R_a_35.lt
          have R_e_35 : Row w35 (w34.heap.size) [.int .i64 2, .int .i64 100, .slice none 0 0, .int .i64 2, .int .i64 100, .slice none 0 0] := by rw [← hw35]; exact Row.new' _ _ _ rfl
          have l_e_35 := R_e_35.lt
          have HB35 := HB34.trans (hb35.mono HB34.size)
          have hs35 := hb35.size
          have hz35 := HB35.size
          have hS35 := And.intro c_p_0_35 (And.intro c_p_1_35 (And.intro c_p_2_35 (And.intro c_o_0_35 (And.intro c_o_1_35 (c_o_2_35)))))
          refine hKz _ _ (fun _ => hS35) ?_
          clear hKz Kz hS34
          clear R_p_34 c_p_0_34 c_p_1_34 c_p_2_34 R_o_34 c_o_0_34 c_o_1_34 c_o_2_34 R_a_34 hb34
          refine AnyJ.one (i := 7) (by kernel_rfl) rfl (fun Kz hKz => ?_)
          go_simp
          refine (node_any 6 _ 2 2 _).mono ?_
          rintro e w36 ⟨rfl, hb36⟩
          have R_p_36 := R_p_35.step hb36
          have c_p_0_36 := R_p_36.cell 0 rfl
          have c_p_1_36 := R_p_36.cell 1 rfl
          have c_p_2_36 := R_p_36.cell 2 rfl
          have l_p_36 := R_p_36.lt
          have R_o_36 := R_o_35.step hb36
          have c_o_0_36 := R_o_36.cell 0 rfl
          have c_o_1_36 := R_o_36.cell 1 rfl
          have c_o_2_36 := R_o_36.cell 2 rfl
          have l_o_36 := R_o_36.lt
          have R_a_36 := R_a_35.step hb36
          have l_a_36 := R_a_36.lt
          have R_e_36 := R_e_35.step hb36
          have l_e_36 := R_e_36.lt
          have HB36 := HB35.trans (hb36.mono HB35.size)
          have hz36 := HB36.size
          have hS36 := And.intro c_p_0_36 (And.intro c_p_1_36 (And.intro c_p_2_36 (And.intro c_o_0_36 (And.intro c_o_1_36 (c_o_2_36)))))
          refine hKz _ _ (fun _ => hS36) ?_
          clear hKz Kz hS35
          clear R_p_35 c_p_0_35 c_p_1_35 c_p_2_35 R_o_35 c_o_0_35 c_o_1_35 c_o_2_35 R_a_35 R_e_35 hb35 hw35
          refine AnyJ.one (i := 8) (by kernel_rfl) rfl (fun Kz hKz => ?_)
          go_simp
          refine (leaf_any 1 1 _).mono ?_
          rintro e w37 ⟨rfl, hb37⟩
          have R_p_37 := R_p_36.step hb37
          have c_p_0_37 := R_p_37.cell 0 rfl
          have c_p_1_37 := R_p_37.cell 1 rfl
          have c_p_2_37 := R_p_37.cell 2 rfl
          have l_p_37 := R_p_37.lt
          have R_o_37 := R_o_36.step hb37
          have c_o_0_37 := R_o_37.cell 0 rfl
          have c_o_1_37 := R_o_37.cell 1 rfl
          have c_o_2_37 := R_o_37.cell 2 rfl
          have l_o_37 := R_o_37.lt
          have R_a_37 := R_a_36.step hb37
          have l_a_37 := R_a_37.lt
          have R_e_37 := R_e_36.step hb37
          have l_e_37 := R_e_37.lt
          have HB37 := HB36.trans (hb37.mono HB36.size)
          have hz37 := HB37.size
          have hS37 := And.intro c_p_0_37 (And.intro c_p_1_37 (And.intro c_p_2_37 (And.intro c_o_0_37 (And.intro c_o_1_37 (c_o_2_37)))))
          refine hKz _ _ (fun _ => hS37) ?_
          clear hKz Kz hS36
          clear R_p_36 c_p_0_36 c_p_1_36 c_p_2_36 R_o_36 c_o_0_36 c_o_1_36 c_o_2_36 R_a_36 R_e_36 hb36
          refine AnyJ.one (i := 9) (by kernel_rfl) rfl (fun Kz hKz => ?_)
          go_simp
          generalize hw38 : World.alloc w37 _ = w38
          have hb38 : Below w37.heap.size w37 w38 := by rw [← hw38]; exact (Below.refl _ _).alloc (Nat.le_refl _) _
          have R_p_38 := R_p_37.step hb38
          have c_p_0_38 := R_p_38.cell 0 rfl
          have c_p_1_38 := R_p_38.cell 1 rfl
          have c_p_2_38 := R_p_38.cell 2 rfl
          have l_p_38 := R_p_38.lt
          have R_o_38 := R_o_37.step hb38
          have c_o_0_38 := R_o_38.cell 0 rfl
          have c_o_1_38 := R_o_38.cell 1 rfl
          have c_o_2_38 := R_o_38.cell 2 rfl
          have l_o_38 := R_o_38.lt
          have R_a_38 := R_a_37.step hb38
          have l_a_38 := R_a_38.lt
          have R_e_38 := R_e_37.step hb38
          have l_e_38 := R_e_38.lt
          have R_i_38 : Row w38 (w37.heap.size) [.int .i64 1, .int .i64 1, .slice none 0 0] := by rw [← hw38]; exact Row.new' _ _ _ rfl
          have l_i_38 := R_i_38.lt
          have HB38 := HB37.trans (hb38.mono HB37.size)
          have hs38 := hb38.size
          have hz38 := HB38.size
          have hS38 := And.intro c_p_0_38 (And.intro c_p_1_38 (And.intro c_p_2_38 (And.intro c_o_0_38 (And.intro c_o_1_38 (c_o_2_38)))))
          refine hKz _ _ (fun _ => hS38) ?_
          clear hKz Kz hS37
          clear R_p_37 c_p_0_37 c_p_1_37 c_p_2_37 R_o_37 c_o_0_37 c_o_1_37 c_o_2_37 R_a_37 R_e_37 hb37
          refine AnyJ.one (i := 10) (by kernel_rfl) rfl (fun Kz hKz => ?_)
          go_simp
          refine (node_any 15 _ 1 1 _).mono ?_
          rintro e w39 ⟨rfl, hb39⟩
          have R_p_39 := R_p_38.step hb39
          have c_p_0_39 := R_p_39.cell 0 rfl
          have c_p_1_39 := R_p_39.cell 1 rfl
          have c_p_2_39 := R_p_39.cell 2 rfl
          have l_p_39 := R_p_39.lt
          have R_o_39 := R_o_38.step hb39
          have c_o_0_39 := R_o_39.cell 0 rfl
          have c_o_1_39 := R_o_39.cell 1 rfl
          have c_o_2_39 := R_o_39.cell 2 rfl
          have l_o_39 := R_o_39.lt
          have R_a_39 := R_a_38.step hb39
          have l_a_39 := R_a_39.lt
          have R_e_39 := R_e_38.step hb39
          have l_e_39 := R_e_39.lt
          have R_i_39 := R_i_38.step hb39
          have l_i_39 := R_i_39.lt
          have HB39 := HB38.trans (hb39.mono HB38.size)
          have hz39 := HB39.size
          have hS39 := And.intro c_p_0_39 (And.intro c_p_1_39 (And.intro c_p_2_39 (And.intro c_o_0_39 (And.intro c_o_1_39 (c_o_2_39)))))
          refine hKz _ _ (fun _ => hS39) ?_
          clear hKz Kz hS38
          clear R_p_38 c_p_0_38 c_p_1_38 c_p_2_38 R_o_38 c_o_0_38 c_o_1_38 c_o_2_38 R_a_38 R_e_38 R_i_38 hb38 hw38
          refine AnyJ.one (i := 11) (by kernel_rfl) rfl (fun Kz hKz => ?_)
          go_simp
          refine (leaf_any 1 1 _).mono ?_
          rintro e w40 ⟨rfl, hb40⟩
          have R_p_40 := R_p_39.step hb40
          have c_p_0_40 := R_p_40.cell 0 rfl
          have c_p_1_40 := R_p_40.cell 1 rfl
          have c_p_2_40 := R_p_40.cell 2 rfl
          have l_p_40 := R_p_40.lt
          have R_o_40 := R_o_39.step hb40
          have c_o_0_40 := R_o_40.cell 0 rfl
          have c_o_1_40 := R_o_40.cell 1 rfl
          have c_o_2_40 := R_o_40.cell 2 rfl
          have l_o_40 := R_o_40.lt
          have R_a_40 := R_a_39.step hb40
          have l_a_40 := R_a_40.lt
          have R_e_40 := R_e_39.step hb40
          have l_e_40 := R_e_40.lt
          have R_i_40 := R_i_39.step hb40
          have l_i_40 := R_i_40.lt
          have HB40 := HB39.trans (hb40.mono HB39.size)
          have hz40 := HB40.size
          have hS40 := And.intro c_p_0_40 (And.intro c_p_1_40 (And.intro c_p_2_40 (And.intro c_o_0_40 (And.intro c_o_1_40 (c_o_2_40)))))
          refine hKz _ _ (fun _ => hS40) ?_
          clear hKz Kz hS39
          clear R_p_39 c_p_0_39 c_p_1_39 c_p_2_39 R_o_39 c_o_0_39 c_o_1_39 c_o_2_39 R_a_39 R_e_39 R_i_39 hb39
          refine AnyJ.one (i := 13) (by kernel_rfl) rfl (fun Kz hKz => ?_)
          go_simp
          generalize hw41 : World.alloc w40 _ = w41
          have hb41 : Below w40.heap.size w40 w41 := by rw [← hw41]; exact (Below.refl _ _).alloc (Nat.le_refl _) _
          have R_p_41 := R_p_40.step hb41
          have c_p_0_41 := R_p_41.cell 0 rfl
          have c_p_1_41 := R_p_41.cell 1 rfl
          have c_p_2_41 := R_p_41.cell 2 rfl
          have l_p_41 := R_p_41.lt
          have R_o_41 := R_o_40.step hb41
          have c_o_0_41 := R_o_41.cell 0 rfl
          have c_o_1_41 := R_o_41.cell 1 rfl
          have c_o_2_41 := R_o_41.cell 2 rfl
          have l_o_41 := R_o_41.lt
          have R_a_41 := R_a_40.step hb41
          have l_a_41 := R_a_41.lt
          have R_e_41 := R_e_40.step hb41
          have l_e_41 := R_e_41.lt
          have R_i_41 := R_i_40.step hb41
          have l_i_41 := R_i_41.lt
          have R_j_41 : Row w41 (w40.heap.size) [.int .i64 1, .int .i64 1, .slice none 0 0, .int .i64 2, .int .i64 100, .slice none 0 0] := by rw [← hw41]; exact Row.new' _ _ _ rfl
          have l_j_41 := R_j_41.lt
          have HB41 := HB40.trans (hb41.mono HB40.size)
          have hs41 := hb41.size
          have hz41 := HB41.size
          have hS41 := And.intro c_p_0_41 (And.intro c_p_1_41 (And.intro c_p_2_41 (And.intro c_o_0_41 (And.intro c_o_1_41 (c_o_2_41)))))
          refine hKz _ _ (fun _ => hS41) ?_
          clear hKz Kz hS40
          clear R_p_40 c_p_0_40 c_p_1_40 c_p_2_40 R_o_40 c_o_0_40 c_o_1_40 c_o_2_40 R_a_40 R_e_40 R_i_40 hb40
          refine AnyJ.one (i := 14) (by kernel_rfl) rfl (fun Kz hKz => ?_)
          go_simp
          refine (node_any 7 _ 2 2 _).mono ?_
          rintro e w42 ⟨rfl, hb42⟩
          have R_p_42 := R_p_41.step hb42
          have c_p_0_42 := R_p_42.cell 0 rfl
          have c_p_1_42 := R_p_42.cell 1 rfl
          have c_p_2_42 := R_p_42.cell 2 rfl
          have l_p_42 := R_p_42.lt
          have R_o_42 := R_o_41.step hb42
          have c_o_0_42 := R_o_42.cell 0 rfl
          have c_o_1_42 := R_o_42.cell 1 rfl
          have c_o_2_42 := R_o_42.cell 2 rfl
          have l_o_42 := R_o_42.lt
          have R_a_42 := R_a_41.step hb42
          have l_a_42 := R_a_42.lt
          have R_e_42 := R_e_41.step hb42
          have l_e_42 := R_e_42.lt
          have R_i_42 := R_i_41.step hb42
          have l_i_42 := R_i_42.lt
          have R_j_42 := R_j_41.step hb42
          have l_j_42 := R_j_42.lt
          have HB42 := HB41.trans (hb42.mono HB41.size)
          have hz42 := HB42.size
          have hS42 := And.intro c_p_0_42 (And.intro c_p_1_42 (And.intro c_p_2_42 (And.intro c_o_0_42 (And.intro c_o_1_42 (c_o_2_42)))))
          refine hKz _ _ (fun _ => hS42) ?_
          clear hKz Kz hS41
          clear R_p_41 c_p_0_41 c_p_1_41 c_p_2_41 R_o_41 c_o_0_41 c_o_1_41 c_o_2_41 R_a_41 R_e_41 R_i_41 R_j_41 hb41 hw41
          refine AnyJ.one (i := 15) (by kernel_rfl) rfl (fun Kz hKz => ?_)
          go_simp
          generalize hw43 : World.alloc w42 _ = w43
          have hb43 : Below w42.heap.size w42 w43 := by rw [← hw43]; exact (Below.refl _ _).alloc (Nat.le_refl _) _
          have R_p_43 := R_p_42.step hb43
          have c_p_0_43 := R_p_43.cell 0 rfl
          have c_p_1_43 := R_p_43.cell 1 rfl
          have c_p_2_43 := R_p_43.cell 2 rfl
          have l_p_43 := R_p_43.lt
          have R_o_43 := R_o_42.step hb43
          have c_o_0_43 := R_o_43.cell 0 rfl
          have c_o_1_43 := R_o_43.cell 1 rfl
          have c_o_2_43 := R_o_43.cell 2 rfl
          have l_o_43 := R_o_43.lt
          have R_a_43 := R_a_42.step hb43
          have l_a_43 := R_a_43.lt
          have R_e_43 := R_e_42.step hb43
          have l_e_43 := R_e_43.lt
          have R_i_43 := R_i_42.step hb43
          have l_i_43 := R_i_43.lt
          have R_j_43 := R_j_42.step hb43
          have l_j_43 := R_j_43.lt
          have R_d_43 : Row w43 (w42.heap.size) [.int .i64 4, .int .i64 0, .slice (some ⟨(w32.heap.size), 0, none⟩) 2 2, .int .i64 6, .int .i64 0, .slice (some ⟨(w34.heap.size), 0, none⟩) 2 2, .int .i64 15, .int .i64 0, .slice (some ⟨(w37.heap.size), 0, none⟩) 1 1, .int .i64 7, .int .i64 0, .slice (some ⟨(w40.heap.size), 0, none⟩) 2 2] := by rw [← hw43]; exact Row.new' _ _ _ rfl
          have l_d_43 := R_d_43.lt
          have HB43 := HB42.trans (hb43.mono HB42.size)
          have hs43 := hb43.size
          have hz43 := HB43.size
          have hS43 := And.intro c_p_0_43 (And.intro c_p_1_43 (And.intro c_p_2_43 (And.intro c_o_0_43 (And.intro c_o_1_43 (c_o_2_43)))))
          refine hKz _ _ (fun _ => hS43) ?_
          clear hKz Kz hS42
          clear R_p_42 c_p_0_42 c_p_1_42 c_p_2_42 R_o_42 c_o_0_42 c_o_1_42 c_o_2_42 R_a_42 R_e_42 R_i_42 R_j_42 hb42
          refine AnyJ.takeD (i := 16) (d := some 92) (v := ?_) rfl (by kernel_rfl) (by kernel_rfl) (by kernel_rfl) (by kernel_rfl) (by kernel_rfl) (fun _ _ _ h => h) (Or.inl ⟨by kernel_rfl, ?_⟩) hS43 ?_
          rotate_left
          · intro w' hS
            clear hS
            go_simp
            try with_reducible rfl
          refine AnyJ.done (by kernel_rfl) ?_ _
          clear hS43
          try simp only [Act.put, List.setIfInBounds_toArray, List.set_cons_zero, List.set_cons_succ]
          go_wp2_with fail
          go_meet
          exact ⟨(w42.heap.size), (w32.heap.size), (w34.heap.size), (w37.heap.size), (w40.heap.size), rfl, rfl, rfl, R_d_43, R_a_43, R_e_43, R_i_43, R_j_43, HB43⟩
        ·
          go_simp
          generalize hw34 : World.alloc w33 _ = w34
          have hb34 : Below w33.heap.size w33 w34 := by rw [← hw34]; exact (Below.refl _ _).alloc (Nat.le_refl _) _
          have R_p_34 := R_p_33.step hb34
          have c_p_0_34 := R_p_34.cell 0 rfl
          have c_p_1_34 := R_p_34.cell 1 rfl
          have c_p_2_34 := R_p_34.cell 2 rfl
          have l_p_34 := R_p_34.lt
          have R_o_34 := R_o_33.step hb34
          have c_o_0_34 := R_o_34.cell 0 rfl
          have c_o_1_34 := R_o_34.cell 1 rfl
          have c_o_2_34 := R_o_34.cell 2 rfl
          have l_o_34 := R_o_34.lt
          have R_a_34 := R_a_33.step hb34
          have l_a_34 := R_a_34.lt
          have R_e_34 : Row w34 (w33.heap.size) [.int .i64 2, .int .i64 100, .slice none 0 0, .int .i64 2, .int .i64 100, .slice none 0 0] := by rw [← hw34]; exact Row.new' _ _ _ rfl
          have l_e_34 := R_e_34.lt
          have HB34 := HB33.trans (hb34.mono HB33.size)
          have hs34 := hb34.size
          have hz34 := HB34.size
          have hS34 := And.intro c_p_0_34 (And.intro c_p_1_34 (And.intro c_p_2_34 (And.intro c_o_0_34 (And.intro c_o_1_34 (c_o_2_34)))))
          refine hKz _ _ (fun _ => hS34) ?_
          clear hKz Kz hS33
          clear R_p_33 c_p_0_33 c_p_1_33 c_p_2_33 R_o_33 c_o_0_33 c_o_1_33 c_o_2_33 R_a_33 hb33 hw33
          refine AnyJ.one (i := 3) (by kernel_rfl) rfl (fun Kz hKz => ?_)
          go_simp
          refine (node_any 4 _ 2 2 _).mono ?_
          rintro e w35 ⟨rfl, hb35⟩
          have R_p_35 := R_p_34.step hb35
          have c_p_0_35 := R_p_35.cell 0 rfl
          have c_p_1_35 := R_p_35.cell 1 rfl
          have c_p_2_35 := R_p_35.cell 2 rfl
          have l_p_35 := R_p_35.lt
          have R_o_35 := R_o_34.step hb35
          have c_o_0_35 := R_o_35.cell 0 rfl
          have c_o_1_35 := R_o_35.cell 1 rfl
          have c_o_2_35 := R_o_35.cell 2 rfl
          have l_o_35 := R_o_35.lt
          have R_a_35 := R_a_34.step hb35
          have l_a_35 := R_a_35.lt
          have R_e_35 := R_e_34.step hb35
          have l_e_35 := R_e_35.lt
          have HB35 := HB34.trans (hb35.mono HB34.size)
          have hz35 := HB35.size
          have hS35 := And.intro c_p_0_35 (And.intro c_p_1_35 (And.intro c_p_2_35 (And.intro c_o_0_35 (And.intro c_o_1_35 (c_o_2_35)))))
          refine hKz _ _ (fun _ => hS35) ?_
          clear hKz Kz hS34
          clear R_p_34 c_p_0_34 c_p_1_34 c_p_2_34 R_o_34 c_o_0_34 c_o_1_34 c_o_2_34 R_a_34 R_e_34 hb34 hw34
          refine AnyJ.one (i := 7) (by kernel_rfl) rfl (fun Kz hKz => ?_)
          go_simp
          refine (node_any 6 _ 2 2 _).mono ?_
          rintro e w36 ⟨rfl, hb36⟩
          have R_p_36 := R_p_35.step hb36
          have c_p_0_36 := R_p_36.cell 0 rfl
          have c_p_1_36 := R_p_36.cell 1 rfl
          have c_p_2_36 := R_p_36.cell 2 rfl
          have l_p_36 := R_p_36.lt
          have R_o_36 := R_o_35.step hb36
          have c_o_0_36 := R_o_36.cell 0 rfl
          have c_o_1_36 := R_o_36.cell 1 rfl
          have c_o_2_36 := R_o_36.cell 2 rfl
          have l_o_36 := R_o_36.lt
          have R_a_36 := R_a_35.step hb36
          have l_a_36 := R_a_36.lt
          have R_e_36 := R_e_35.step hb36
          have l_e_36 := R_e_36.lt
          have HB36 := HB35.trans (hb36.mono HB35.size)
          have hz36 := HB36.size
          have hS36 := And.intro c_p_0_36 (And.intro c_p_1_36 (And.intro c_p_2_36 (And.intro c_o_0_36 (And.intro c_o_1_36 (c_o_2_36)))))
          refine hKz _ _ (fun _ => hS36) ?_
          clear hKz Kz hS35
          clear R_p_35 c_p_0_35 c_p_1_35 c_p_2_35 R_o_35 c_o_0_35 c_o_1_35 c_o_2_35 R_a_35 R_e_35 hb35
          refine AnyJ.one (i := 8) (by kernel_rfl) rfl (fun Kz hKz => ?_)
          go_simp
          refine (leaf_any 1 1 _).mono ?_
          rintro e w37 ⟨rfl, hb37⟩
          have R_p_37 := R_p_36.step hb37
          have c_p_0_37 := R_p_37.cell 0 rfl
          have c_p_1_37 := R_p_37.cell 1 rfl
          have c_p_2_37 := R_p_37.cell 2 rfl
          have l_p_37 := R_p_37.lt
          have R_o_37 := R_o_36.step hb37
          have c_o_0_37 := R_o_37.cell 0 rfl
          have c_o_1_37 := R_o_37.cell 1 rfl
          have c_o_2_37 := R_o_37.cell 2 rfl
          have l_o_37 := R_o_37.lt
          have R_a_37 := R_a_36.step hb37
          have l_a_37 := R_a_37.lt
          have R_e_37 := R_e_36.step hb37
          have l_e_37 := R_e_37.lt
          have HB37 := HB36.trans (hb37.mono HB36.size)
          have hz37 := HB37.size
          have hS37 := And.intro c_p_0_37 (And.intro c_p_1_37 (And.intro c_p_2_37 (And.intro c_o_0_37 (And.intro c_o_1_37 (c_o_2_37)))))
          refine hKz _ _ (fun _ => hS37) ?_
          clear hKz Kz hS36
          clear R_p_36 c_p_0_36 c_p_1_36 c_p_2_36 R_o_36 c_o_0_36 c_o_1_36 c_o_2_36 R_a_36 R_e_36 hb36
          refine AnyJ.one (i := 9) (by kernel_rfl) rfl (fun Kz hKz => ?_)
          go_simp
          generalize hw38 : World.alloc w37 _ = w38
          have hb38 : Below w37.heap.size w37 w38 := by rw [← hw38]; exact (Below.refl _ _).alloc (Nat.le_refl _) _
          have R_p_38 := R_p_37.step hb38
          have c_p_0_38 := R_p_38.cell 0 rfl
          have c_p_1_38 := R_p_38.cell 1 rfl
          have c_p_2_38 := R_p_38.cell 2 rfl
          have l_p_38 := R_p_38.lt
          have R_o_38 := R_o_37.step hb38
          have c_o_0_38 := R_o_38.cell 0 rfl
          have c_o_1_38 := R_o_38.cell 1 rfl
          have c_o_2_38 := R_o_38.cell 2 rfl
          have l_o_38 := R_o_38.lt
          have R_a_38 := R_a_37.step hb38
          have l_a_38 := R_a_38.lt
          have R_e_38 := R_e_37.step hb38
          have l_e_38 := R_e_38.lt
          have R_i_38 : Row w38 (w37.heap.size) [.int .i64 1, .int .i64 1, .slice none 0 0] := by rw [← hw38]; exact Row.new' _ _ _ rfl
          have l_i_38 := R_i_38.lt
          have HB38 := HB37.trans (hb38.mono HB37.size)
          have hs38 := hb38.size
          have hz38 := HB38.size
          have hS38 := And.intro c_p_0_38 (And.intro c_p_1_38 (And.intro c_p_2_38 (And.intro c_o_0_38 (And.intro c_o_1_38 (c_o_2_38)))))
          refine hKz _ _ (fun _ => hS38) ?_
          clear hKz Kz hS37
          clear R_p_37 c_p_0_37 c_p_1_37 c_p_2_37 R_o_37 c_o_0_37 c_o_1_37 c_o_2_37 R_a_37 R_e_37 hb37
          refine AnyJ.one (i := 10) (by kernel_rfl) rfl (fun Kz hKz => ?_)
          go_simp
          refine (node_any 15 _ 1 1 _).mono ?_
          rintro e w39 ⟨rfl, hb39⟩
          have R_p_39 := R_p_38.step hb39
          have c_p_0_39 := R_p_39.cell 0 rfl
          have c_p_1_39 := R_p_39.cell 1 rfl
          have c_p_2_39 := R_p_39.cell 2 rfl
          have l_p_39 := R_p_39.lt
          have R_o_39 := R_o_38.step hb39
          have c_o_0_39 := R_o_39.cell 0 rfl
          have c_o_1_39 := R_o_39.cell 1 rfl
          have c_o_2_39 := R_o_39.cell 2 rfl
          have l_o_39 := R_o_39.lt
          have R_a_39 := R_a_38.step hb39
          have l_a_39 := R_a_39.lt
          have R_e_39 := R_e_38.step hb39
          have l_e_39 := R_e_39.lt
          have R_i_39 := R_i_38.step hb39
          have l_i_39 := R_i_39.lt
          have HB39 := HB38.trans (hb39.mono HB38.size)
          have hz39 := HB39.size
          have hS39 := And.intro c_p_0_39 (And.intro c_p_1_39 (And.intro c_p_2_39 (And.intro c_o_0_39 (And.intro c_o_1_39 (c_o_2_39)))))
          refine hKz _ _ (fun _ => hS39) ?_
          clear hKz Kz hS38
          clear R_p_38 c_p_0_38 c_p_1_38 c_p_2_38 R_o_38 c_o_0_38 c_o_1_38 c_o_2_38 R_a_38 R_e_38 R_i_38 hb38 hw38
          refine AnyJ.one (i := 11) (by kernel_rfl) rfl (fun Kz hKz => ?_)
          go_simp
          refine (leaf_any 1 1 _).mono ?_
          rintro e w40 ⟨rfl, hb40⟩
          have R_p_40 := R_p_39.step hb40
          have c_p_0_40 := R_p_40.cell 0 rfl
          have c_p_1_40 := R_p_40.cell 1 rfl
          have c_p_2_40 := R_p_40.cell 2 rfl
          have l_p_40 := R_p_40.lt
          have R_o_40 := R_o_39.step hb40
          have c_o_0_40 := R_o_40.cell 0 rfl
          have c_o_1_40 := R_o_40.cell 1 rfl
          have c_o_2_40 := R_o_40.cell 2 rfl
          have l_o_40 := R_o_40.lt
          have R_a_40 := R_a_39.step hb40
          have l_a_40 := R_a_40.lt
          have R_e_40 := R_e_39.step hb40
          have l_e_40 := R_e_40.lt
          have R_i_40 := R_i_39.step hb40
          have l_i_40 := R_i_40.lt
          have HB40 := HB39.trans (hb40.mono HB39.size)
          have hz40 := HB40.size
          have hS40 := And.intro c_p_0_40 (And.intro c_p_1_40 (And.intro c_p_2_40 (And.intro c_o_0_40 (And.intro c_o_1_40 (c_o_2_40)))))
          refine hKz _ _ (fun _ => hS40) ?_
          clear hKz Kz hS39
          clear R_p_39 c_p_0_39 c_p_1_39 c_p_2_39 R_o_39 c_o_0_39 c_o_1_39 c_o_2_39 R_a_39 R_e_39 R_i_39 hb39
          refine AnyJ.one (i := 13) (by kernel_rfl) rfl (fun Kz hKz => ?_)
          go_simp
          generalize hw41 : World.alloc w40 _ = w41
          have hb41 : Below w40.heap.size w40 w41 := by rw [← hw41]; exact (Below.refl _ _).alloc (Nat.le_refl _) _
          have R_p_41 := R_p_40.step hb41
          have c_p_0_41 := R_p_41.cell 0 rfl
          have c_p_1_41 := R_p_41.cell 1 rfl
          have c_p_2_41 := R_p_41.cell 2 rfl
          have l_p_41 := R_p_41.lt
          have R_o_41 := R_o_40.step hb41
          have c_o_0_41 := R_o_41.cell 0 rfl
          have c_o_1_41 := R_o_41.cell 1 rfl
          have c_o_2_41 := R_o_41.cell 2 rfl
          have l_o_41 := R_o_41.lt
          have R_a_41 := R_a_40.step hb41
          have l_a_41 := R_a_41.lt
          have R_e_41 := R_e_40.step hb41
          have l_e_41 := R_e_41.lt
          have R_i_41 := R_i_40.step hb41
          have l_i_41 := R_i_41.lt
          have R_j_41 : Row w41 (w40.heap.size) [.int .i64 1, .int .i64 1, .slice none 0 0, .int .i64 2, .int .i64 100, .slice none 0 0] := by rw [← hw41]; exact Row.new' _ _ _ rfl
          have l_j_41 := R_j_41.lt
          have HB41 := HB40.trans (hb41.mono HB40.size)
          have hs41 := hb41.size
          have hz41 := HB41.size
          have hS41 := And.intro c_p_0_41 (And.intro c_p_1_41 (And.intro c_p_2_41 (And.intro c_o_0_41 (And.intro c_o_1_41 (c_o_2_41)))))
          refine hKz _ _ (fun _ => hS41) ?_
          clear hKz Kz hS40
          clear R_p_40 c_p_0_40 c_p_1_40 c_p_2_40 R_o_40 c_o_0_40 c_o_1_40 c_o_2_40 R_a_40 R_e_40 R_i_40 hb40
          refine AnyJ.one (i := 14) (by kernel_rfl) rfl (fun Kz hKz => ?_)
          go_simp
          refine (node_any 7 _ 2 2 _).mono ?_
          rintro e w42 ⟨rfl, hb42⟩
          have R_p_42 := R_p_41.step hb42
          have c_p_0_42 := R_p_42.cell 0 rfl
          have c_p_1_42 := R_p_42.cell 1 rfl
          have c_p_2_42 := R_p_42.cell 2 rfl
          have l_p_42 := R_p_42.lt
          have R_o_42 := R_o_41.step hb42
          have c_o_0_42 := R_o_42.cell 0 rfl
          have c_o_1_42 := R_o_42.cell 1 rfl
          have c_o_2_42 := R_o_42.cell 2 rfl
          have l_o_42 := R_o_42.lt
          have R_a_42 := R_a_41.step hb42
          have l_a_42 := R_a_42.lt
          have R_e_42 := R_e_41.step hb42
          have l_e_42 := R_e_42.lt
          have R_i_42 := R_i_41.step hb42
          have l_i_42 := R_i_42.lt
          have R_j_42 := R_j_41.step hb42
          have l_j_42 := R_j_42.lt
          have HB42 := HB41.trans (hb42.mono HB41.size)
          have hz42 := HB42.size
          have hS42 := And.intro c_p_0_42 (And.intro c_p_1_42 (And.intro c_p_2_42 (And.intro c_o_0_42 (And.intro c_o_1_42 (c_o_2_42)))))
          refine hKz _ _ (fun _ => hS42) ?_
          clear hKz Kz hS41
          clear R_p_41 c_p_0_41 c_p_1_41 c_p_2_41 R_o_41 c_o_0_41 c_o_1_41 c_o_2_41 R_a_41 R_e_41 R_i_41 R_j_41 hb41 hw41
          refine AnyJ.one (i := 15) (by kernel_rfl) rfl (fun Kz hKz => ?_)
          go_simp
          generalize hw43 : World.alloc w42 _ = w43
          have hb43 : Below w42.heap.size w42 w43 := by rw [← hw43]; exact (Below.refl _ _).alloc (Nat.le_refl _) _
          have R_p_43 := R_p_42.step hb43
          have c_p_0_43 := R_p_43.cell 0 rfl
          have c_p_1_43 := R_p_43.cell 1 rfl
          have c_p_2_43 := R_p_43.cell 2 rfl
          have l_p_43 := R_p_43.lt
          have R_o_43 := R_o_42.step hb43
          have c_o_0_43 := R_o_43.cell 0 rfl
          have c_o_1_43 := R_o_43.cell 1 rfl
          have c_o_2_43 := R_o_43.cell 2 rfl
          have l_o_43 := R_o_43.lt
          have R_a_43 := R_a_42.step hb43
          have l_a_43 := R_a_43.lt
          have R_e_43 := R_e_42.step hb43
          have l_e_43 := R_e_43.lt
          have R_i_43 := R_i_42.step hb43
          have l_i_43 := R_i_43.lt
          have R_j_43 := R_j_42.step hb43
          have l_j_43 := R_j_43.lt
          have R_d_43 : Row w43 (w42.heap.size) [.int .i64 4, .int .i64 0, .slice (some ⟨(w32.heap.size), 0, none⟩) 2 2, .int .i64 6, .int .i64 0, .slice (some ⟨(w33.heap.size), 0, none⟩) 2 2, .int .i64 15, .int .i64 0, .slice (some ⟨(w37.heap.size), 0, none⟩) 1 1, .int .i64 7, .int .i64 0, .slice (some ⟨(w40.heap.size), 0, none⟩) 2 2] := by rw [← hw43]; exact Row.new' _ _ _ rfl
          have l_d_43 := R_d_43.lt
          have HB43 := HB42.trans (hb43.mono HB42.size)
          have hs43 := hb43.size
          have hz43 := HB43.size
          have hS43 := And.intro c_p_0_43 (And.intro c_p_1_43 (And.intro c_p_2_43 (And.intro c_o_0_43 (And.intro c_o_1_43 (c_o_2_43)))))
          refine hKz _ _ (fun _ => hS43) ?_
          clear hKz Kz hS42
          clear R_p_42 c_p_0_42 c_p_1_42 c_p_2_42 R_o_42 c_o_0_42 c_o_1_42 c_o_2_42 R_a_42 R_e_42 R_i_42 R_j_42 hb42
          refine AnyJ.takeD (i := 16) (d := some 92) (v := ?_) rfl (by kernel_rfl) (by kernel_rfl) (by kernel_rfl) (by kernel_rfl) (by kernel_rfl) (fun _ _ _ h => h) (Or.inl ⟨by kernel_rfl, ?_⟩) hS43 ?_
          rotate_left
          · intro w' hS
            clear hS
            go_simp
            try with_reducible rfl
          refine AnyJ.done (by kernel_rfl) ?_ _
          clear hS43
          try simp only [Act.put, List.setIfInBounds_toArray, List.set_cons_zero, List.set_cons_succ]
          go_wp2_with fail
          go_meet
          exact ⟨(w42.heap.size), (w32.heap.size), (w33.heap.size), (w37.heap.size), (w40.heap.size), rfl, rfl, rfl, R_d_43, R_a_43, R_e_43, R_i_43, R_j_43, HB43⟩
      ·
        go_simp
        generalize hw33 : World.alloc w32 _ = w33
        have hb33 : Below w32.heap.size w32 w33 := by rw [← hw33]; exact (Below.refl _ _).alloc (Nat.le_refl _) _
        have R_p_33 := R_p_32.step hb33
        have c_p_0_33 := R_p_33.cell 0 rfl
        have c_p_1_33 := R_p_33.cell 1 rfl
        have c_p_2_33 := R_p_33.cell 2 rfl
        have l_p_33 := R_p_33.lt
        have R_o_33 := R_o_32.step hb33
        have c_o_0_33 := R_o_33.cell 0 rfl
        have c_o_1_33 := R_o_33.cell 1 rfl
        have c_o_2_33 := R_o_33.cell 2 rfl
        have l_o_33 := R_o_33.lt
        have R_e_33 : Row w33 (w32.heap.size) [.int .i64 2, .int .i64 100, .slice none 0 0, .int .i64 2, .int .i64 100, .slice none 0 0] := by rw [← hw33]; exact Row.new' _ _ _ rfl
        have l_e_33 := R_e_33.lt
        have HB33 := HB32.trans (hb33.mono HB32.size)
        have hs33 := hb33.size
        have hz33 := HB33.size
        have hS33 := And.intro c_p_0_33 (And.intro c_p_1_33 (And.intro c_p_2_33 (And.intro c_o_0_33 (And.intro c_o_1_33 (c_o_2_33)))))
        refine hKz _ _ (fun _ => hS33) ?_
        clear hKz Kz hS31
        clear R_p_32 c_p_0_32 c_p_1_32 c_p_2_32 R_o_32 c_o_0_32 c_o_1_32 c_o_2_32 hb32 hw32
        refine AnyJ.one (i := 2) (by kernel_rfl) rfl (fun Kz hKz => ?_)
        go_simp
        generalize hw34 : World.alloc w33 _ = w34
        have hb34 : Below w33.heap.size w33 w34 := by rw [← hw34]; exact (Below.refl _ _).alloc (Nat.le_refl _) _
        have R_p_34 := R_p_33.step hb34
        have c_p_0_34 := R_p_34.cell 0 rfl
        have c_p_1_34 := R_p_34.cell 1 rfl
        have c_p_2_34 := R_p_34.cell 2 rfl
        have l_p_34 := R_p_34.lt
        have R_o_34 := R_o_33.step hb34
        have c_o_0_34 := R_o_34.cell 0 rfl
        have c_o_1_34 := R_o_34.cell 1 rfl
        have c_o_2_34 := R_o_34.cell 2 rfl
        have l_o_34 := R_o_34.lt
        have R_e_34 := R_e_33.step hb34
        have l_e_34 := R_e_34.lt
        have R_a_34 : Row w34 (w33.heap.size) [.int .i64 2, .int .i64 100, .slice none 0 0, .int .i64 3, .int .i64 2, .slice none 0 0] := by rw [← hw34]; exact Row.new' _ _ _ rfl
        have l_a_34 := R_a_34.lt
        have HB34 := HB33.trans (hb34.mono HB33.size)
        have hs34 := hb34.size
        have hz34 := HB34.size
        have hS34 := And.intro c_p_0_34 (And.intro c_p_1_34 (And.intro c_p_2_34 (And.intro c_o_0_34 (And.intro c_o_1_34 (c_o_2_34)))))
        refine hKz _ _ (fun _ => hS34) ?_
        clear hKz Kz hS33
        clear R_p_33 c_p_0_33 c_p_1_33 c_p_2_33 R_o_33 c_o_0_33 c_o_1_33 c_o_2_33 R_e_33 hb33 hw33
        refine AnyJ.one (i := 3) (by kernel_rfl) rfl (fun Kz hKz => ?_)
        go_simp
        refine (node_any 4 _ 2 2 _).mono ?_
        rintro e w35 ⟨rfl, hb35⟩
        have R_p_35 := R_p_34.step hb35
        have c_p_0_35 := R_p_35.cell 0 rfl
        have c_p_1_35 := R_p_35.cell 1 rfl
        have c_p_2_35 := R_p_35.cell 2 rfl
        have l_p_35 := R_p_35.lt
        have R_o_35 := R_o_34.step hb35
        have c_o_0_35 := R_o_35.cell 0 rfl
        have c_o_1_35 := R_o_35.cell 1 rfl
        have c_o_2_35 := R_o_35.cell 2 rfl
        have l_o_35 := R_o_35.lt
        have R_e_35 := R_e_34.step hb35
        have l_e_35 := R_e_35.lt
        have R_a_35 := R_a_34.step hb35
        have l_a_35 := R_a_35.lt
        have HB35 := HB34.trans (hb35.mono HB34.size)
        have hz35 := HB35.size
        have hS35 := And.intro c_p_0_35 (And.intro c_p_1_35 (And.intro c_p_2_35 (And.intro c_o_0_35 (And.intro c_o_1_35 (c_o_2_35)))))
        refine hKz _ _ (fun _ => hS35) ?_
        clear hKz Kz hS34
        clear R_p_34 c_p_0_34 c_p_1_34 c_p_2_34 R_o_34 c_o_0_34 c_o_1_34 c_o_2_34 R_e_34 R_a_34 hb34 hw34
        refine AnyJ.one (i := 7) (by kernel_rfl) rfl (fun Kz hKz => ?_)
        go_simp
        refine (node_any 6 _ 2 2 _).mono ?_
        rintro e w36 ⟨rfl, hb36⟩
        have R_p_36 := R_p_35.step hb36
        have c_p_0_36 := R_p_36.cell 0 rfl
        have c_p_1_36 := R_p_36.cell 1 rfl
        have c_p_2_36 := R_p_36.cell 2 rfl
        have l_p_36 := R_p_36.lt
        have R_o_36 := R_o_35.step hb36
        have c_o_0_36 := R_o_36.cell 0 rfl
        have c_o_1_36 := R_o_36.cell 1 rfl
        have c_o_2_36 := R_o_36.cell 2 rfl
        have l_o_36 := R_o_36.lt
        have R_e_36 := R_e_35.step hb36
        have l_e_36 := R_e_36.lt
        have R_a_36 := R_a_35.step hb36
        have l_a_36 := R_a_36.lt
        have HB36 := HB35.trans (hb36.mono HB35.size)
        have hz36 := HB36.size
        have hS36 := And.intro c_p_0_36 (And.intro c_p_1_36 (And.intro c_p_2_36 (And.intro c_o_0_36 (And.intro c_o_1_36 (c_o_2_36)))))
        refine hKz _ _ (fun _ => hS36) ?_
        clear hKz Kz hS35
        clear R_p_35 c_p_0_35 c_p_1_35 c_p_2_35 R_o_35 c_o_0_35 c_o_1_35 c_o_2_35 R_e_35 R_a_35 hb35
        refine AnyJ.one (i := 8) (by kernel_rfl) rfl (fun Kz hKz => ?_)
        go_simp
        refine (leaf_any 1 1 _).mono ?_
        rintro e w37 ⟨rfl, hb37⟩
        have R_p_37 := R_p_36.step hb37
        have c_p_0_37 := R_p_37.cell 0 rfl
        have c_p_1_37 := R_p_37.cell 1 rfl
        have c_p_2_37 := R_p_37.cell 2 rfl
        have l_p_37 := R_p_37.lt
        have R_o_37 := R_o_36.step hb37
        have c_o_0_37 := R_o_37.cell 0 rfl
        have c_o_1_37 := R_o_37.cell 1 rfl
        have c_o_2_37 := R_o_37.cell 2 rfl
        have l_o_37 := R_o_37.lt
        have R_e_37 := R_e_36.step hb37
        have l_e_37 := R_e_37.lt
        have R_a_37 := R_a_36.step hb37
        have l_a_37 := R_a_37.lt
        have HB37 := HB36.trans (hb37.mono HB36.size)
        have hz37 := HB37.size
        have hS37 := And.intro c_p_0_37 (And.intro c_p_1_37 (And.intro c_p_2_37 (And.intro c_o_0_37 (And.intro c_o_1_37 (c_o_2_37)))))
        refine hKz _ _ (fun _ => hS37) ?_
        clear hKz Kz hS36
        clear R_p_36 c_p_0_36 c_p_1_36 c_p_2_36 R_o_36 c_o_0_36 c_o_1_36 c_o_2_36 R_e_36 R_a_36 hb36
        refine AnyJ.one (i := 9) (by kernel_rfl) rfl (fun Kz hKz => ?_)
        go_simp
        generalize hw38 : World.alloc w37 _ = w38
        have hb38 : Below w37.heap.size w37 w38 := by rw [← hw38]; exact (Below.refl _ _).alloc (Nat.le_refl _) _
        have R_p_38 := R_p_37.step hb38
        have c_p_0_38 := R_p_38.cell 0 rfl
        have c_p_1_38 := R_p_38.cell 1 rfl
        have c_p_2_38 := R_p_38.cell 2 rfl
        have l_p_38 := R_p_38.lt
        have R_o_38 := R_o_37.step hb38
        have c_o_0_38 := R_o_38.cell 0 rfl
        have c_o_1_38 := R_o_38.cell 1 rfl
        have c_o_2_38 := R_o_38.cell 2 rfl
        have l_o_38 := R_o_38.lt
        have R_e_38 := R_e_37.step hb38
        have l_e_38 := R_e_38.lt
        have R_a_38 := R_a_37.step hb38
        have l_a_38 := R_a_38.lt
        have R_i_38 : Row w38 (w37.heap.size) [.int .i64 1, .int .i64 1, .slice none 0 0] := by rw [← hw38]; exact Row.new' _ _ _ rfl
        have l_i_38 := R_i_38.lt
        have HB38 := HB37.trans (hb38.mono HB37.size)
        have hs38 := hb38.size
        have hz38 := HB38.size
        have hS38 := And.intro c_p_0_38 (And.intro c_p_1_38 (And.intro c_p_2_38 (And.intro c_o_0_38 (And.intro c_o_1_38 (c_o_2_38)))))
        refine hKz _ _ (fun _ => hS38) ?_
        clear hKz Kz hS37
        clear R_p_37 c_p_0_37 c_p_1_37 c_p_2_37 R_o_37 c_o_0_37 c_o_1_37 c_o_2_37 R_e_37 R_a_37 hb37
        refine AnyJ.one (i := 10) (by kernel_rfl) rfl (fun Kz hKz => ?_)
        go_simp
        refine (node_any 15 _ 1 1 _).mono ?_
        rintro e w39 ⟨rfl, hb39⟩
        have R_p_39 := R_p_38.step hb39
        have c_p_0_39 := R_p_39.cell 0 rfl
        have c_p_1_39 := R_p_39.cell 1 rfl
        have c_p_2_39 := R_p_39.cell 2 rfl
        have l_p_39 := R_p_39.lt
        have R_o_39 := R_o_38.step hb39
        have c_o_0_39 := R_o_39.cell 0 rfl
        have c_o_1_39 := R_o_39.cell 1 rfl
        have c_o_2_39 := R_o_39.cell 2 rfl
        have l_o_39 := R_o_39.lt
        have R_e_39 := R_e_38.step hb39
        have l_e_39 := R_e_39.lt
        have R_a_39 := R_a_38.step hb39
        have l_a_39 := R_a_39.lt
        have R_i_39 := R_i_38.step hb39
        have l_i_39 := R_i_39.lt
        have HB39 := HB38.trans (hb39.mono HB38.size)
        have hz39 := HB39.size
        have hS39 := And.intro c_p_0_39 (And.intro c_p_1_39 (And.intro c_p_2_39 (And.intro c_o_0_39 (And.intro c_o_1_39 (c_o_2_39)))))
        refine hKz _ _ (fun _ => hS39) ?_
        clear hKz Kz hS38
        clear R_p_38 c_p_0_38 c_p_1_38 c_p_2_38 R_o_38 c_o_0_38 c_o_1_38 c_o_2_38 R_e_38 R_a_38 R_i_38 hb38 hw38
        refine AnyJ.one (i := 11) (by kernel_rfl) rfl (fun Kz hKz => ?_)
        go_simp
        refine (leaf_any 1 1 _).mono ?_
        rintro e w40 ⟨rfl, hb40⟩
        have R_p_40 := R_p_39.step hb40
        have c_p_0_40 := R_p_40.cell 0 rfl
        have c_p_1_40 := R_p_40.cell 1 rfl
        have c_p_2_40 := R_p_40.cell 2 rfl
        have l_p_40 := R_p_40.lt
        have R_o_40 := R_o_39.step hb40
        have c_o_0_40 := R_o_40.cell 0 rfl
        have c_o_1_40 := R_o_40.cell 1 rfl
        have c_o_2_40 := R_o_40.cell 2 rfl
        have l_o_40 := R_o_40.lt
        have R_e_40 := R_e_39.step hb40
        have l_e_40 := R_e_40.lt
        have R_a_40 := R_a_39.step hb40
        have l_a_40 := R_a_40.lt
        have R_i_40 := R_i_39.step hb40
        have l_i_40 := R_i_40.lt
        have HB40 := HB39.trans (hb40.mono HB39.size)
        have hz40 := HB40.size
        have hS40 := And.intro c_p_0_40 (And.intro c_p_1_40 (And.intro c_p_2_40 (And.intro c_o_0_40 (And.intro c_o_1_40 (c_o_2_40)))))
        refine hKz _ _ (fun _ => hS40) ?_
        clear hKz Kz hS39
        clear R_p_39 c_p_0_39 c_p_1_39 c_p_2_39 R_o_39 c_o_0_39 c_o_1_39 c_o_2_39 R_e_39 R_a_39 R_i_39 hb39
        refine AnyJ.one (i := 13) (by kernel_rfl) rfl (fun Kz hKz => ?_)
        go_simp
        generalize hw41 : World.alloc w40 _ = w41
        have hb41 : Below w40.heap.size w40 w41 := by rw [← hw41]; exact (Below.refl _ _).alloc (Nat.le_refl _) _
        have R_p_41 := R_p_40.step hb41
        have c_p_0_41 := R_p_41.cell 0 rfl
        have c_p_1_41 := R_p_41.cell 1 rfl
        have c_p_2_41 := R_p_41.cell 2 rfl
        have l_p_41 := R_p_41.lt
        have R_o_41 := R_o_40.step hb41
        have c_o_0_41 := R_o_41.cell 0 rfl
        have c_o_1_41 := R_o_41.cell 1 rfl
        have c_o_2_41 := R_o_41.cell 2 rfl
        have l_o_41 := R_o_41.lt
        have R_e_41 := R_e_40.step hb41
        have l_e_41 := R_e_41.lt
        have R_a_41 := R_a_40.step hb41
        have l_a_41 := R_a_41.lt
        have R_i_41 := R_i_40.step hb41
        have l_i_41 := R_i_41.lt
        have R_j_41 : Row w41 (w40.heap.size) [.int .i64 1, .int .i64 1, .slice none 0 0, .int .i64 2, .int .i64 100, .slice none 0 0] := by rw [← hw41]; exact Row.new' _ _ _ rfl
        have l_j_41 := R_j_41.lt
        have HB41 := HB40.trans (hb41.mono HB40.size)
        have hs41 := hb41.size
        have hz41 := HB41.size
        have hS41 := And.intro c_p_0_41 (And.intro c_p_1_41 (And.intro c_p_2_41 (And.intro c_o_0_41 (And.intro c_o_1_41 (c_o_2_41)))))
        refine hKz _ _ (fun _ => hS41) ?_
        clear hKz Kz hS40
        clear R_p_40 c_p_0_40 c_p_1_40 c_p_2_40 R_o_40 c_o_0_40 c_o_1_40 c_o_2_40 R_e_40 R_a_40 R_i_40 hb40
        refine AnyJ.one (i := 14) (by kernel_rfl) rfl (fun Kz hKz => ?_)
        go_simp
        refine (node_any 7 _ 2 2 _).mono ?_
        rintro e w42 ⟨rfl, hb42⟩
        have R_p_42 := R_p_41.step hb42
        have c_p_0_42 := R_p_42.cell 0 rfl
        have c_p_1_42 := R_p_42.cell 1 rfl
        have c_p_2_42 := R_p_42.cell 2 rfl
        have l_p_42 := R_p_42.lt
        have R_o_42 := R_o_41.step hb42
        have c_o_0_42 := R_o_42.cell 0 rfl
        have c_o_1_42 := R_o_42.cell 1 rfl
        have c_o_2_42 := R_o_42.cell 2 rfl
        have l_o_42 := R_o_42.lt
        have R_e_42 := R_e_41.step hb42
        have l_e_42 := R_e_42.lt
        have R_a_42 := R_a_41.step hb42
        have l_a_42 := R_a_42.lt
        have R_i_42 := R_i_41.step hb42
        have l_i_42 := R_i_42.lt
        have R_j_42 := R_j_41.step hb42
        have l_j_42 := R_j_42.lt
        have HB42 := HB41.trans (hb42.mono HB41.size)
        have hz42 := HB42.size
        have hS42 := And.intro c_p_0_42 (And.intro c_p_1_42 (And.intro c_p_2_42 (And.intro c_o_0_42 (And.intro c_o_1_42 (c_o_2_42)))))
        refine hKz _ _ (fun _ => hS42) ?_
        clear hKz Kz hS41
        clear R_p_41 c_p_0_41 c_p_1_41 c_p_2_41 R_o_41 c_o_0_41 c_o_1_41 c_o_2_41 R_e_41 R_a_41 R_i_41 R_j_41 hb41 hw41
        refine AnyJ.one (i := 15) (by kernel_rfl) rfl (fun Kz hKz => ?_)
        go_simp
        generalize hw43 : World.alloc w42 _ = w43
        have hb43 : Below w42.heap.size w42 w43 := by rw [← hw43]; exact (Below.refl _ _).alloc (Nat.le_refl _) _
        have R_p_43 := R_p_42.step hb43
        have c_p_0_43 := R_p_43.cell 0 rfl
        have c_p_1_43 := R_p_43.cell 1 rfl
        have c_p_2_43 := R_p_43.cell 2 rfl
        have l_p_43 := R_p_43.lt
        have R_o_43 := R_o_42.step hb43
        have c_o_0_43 := R_o_43.cell 0 rfl
        have c_o_1_43 := R_o_43.cell 1 rfl
        have c_o_2_43 := R_o_43.cell 2 rfl
        have l_o_43 := R_o_43.lt
        have R_e_43 := R_e_42.step hb43
        have l_e_43 := R_e_43.lt
        have R_a_43 := R_a_42.step hb43
        have l_a_43 := R_a_43.lt
        have R_i_43 := R_i_42.step hb43
        have l_i_43 := R_i_43.lt
        have R_j_43 := R_j_42.step hb43
        have l_j_43 := R_j_43.lt
        have R_d_43 : Row w43 (w42.heap.size) [.int .i64 4, .int .i64 0, .slice (some ⟨(w33.heap.size), 0, none⟩) 2 2, .int .i64 6, .int .i64 0, .slice (some ⟨(w32.heap.size), 0, none⟩) 2 2, .int .i64 15, .int .i64 0, .slice (some ⟨(w37.heap.size), 0, none⟩) 1 1, .int .i64 7, .int .i64 0, .slice (some ⟨(w40.heap.size), 0, none⟩) 2 2] := by rw [← hw43]; exact Row.new' _ _ _ rfl
        have l_d_43 := R_d_43.lt
        have HB43 := HB42.trans (hb43.mono HB42.size)
        have hs43 := hb43.size
        have hz43 := HB43.size
        have hS43 := And.intro c_p_0_43 (And.intro c_p_1_43 (And.intro c_p_2_43 (And.intro c_o_0_43 (And.intro c_o_1_43 (c_o_2_43)))))
        refine hKz _ _ (fun _ => hS43) ?_
        clear hKz Kz hS42
        clear R_p_42 c_p_0_42 c_p_1_42 c_p_2_42 R_o_42 c_o_0_42 c_o_1_42 c_o_2_42 R_e_42 R_a_42 R_i_42 R_j_42 hb42
        refine AnyJ.takeD (i := 16) (d := some 92) (v := ?_) rfl (by kernel_rfl) (by kernel_rfl) (by kernel_rfl) (by kernel_rfl) (by kernel_rfl) (fun _ _ _ h => h) (Or.inl ⟨by kernel_rfl, ?_⟩) hS43 ?_
        rotate_left
        · intro w' hS
          clear hS
          go_simp
          try with_reducible rfl
        refine AnyJ.done (by kernel_rfl) ?_ _
        clear hS43
        try simp only [Act.put, List.setIfInBounds_toArray, List.set_cons_zero, List.set_cons_succ]
        go_wp2_with fail
        go_meet
        exact ⟨(w42.heap.size), (w33.heap.size), (w32.heap.size), (w37.heap.size), (w40.heap.size), rfl, rfl, rfl, R_d_43, R_a_43, R_e_43, R_i_43, R_j_43, HB43⟩
    case' rest =>
      obtain ⟨D, D0, D1, D2, D3, rfl, rfl, rfl, RD, RD0, RD1, RD2, RD3, HB40⟩ := hcut
      obtain ⟨w40, hw40⟩ : ∃ wd, wd = wc := ⟨_, rfl⟩
      subst hw40
      have HX : Hid ((nd 0 D [nd 4 D0 [lf 2 100, lf 3 2], nd 6 D1 [lf 2 100, lf 2 100], nd 15 D2 [lf 1 1], nd 7 D3 [lf 1 1, lf 2 100]]).In w40) := nd_row RD 0 [nd 4 D0 [lf 2 100, lf 3 2], nd 6 D1 [lf 2 100, lf 2 100], nd 15 D2 [lf 1 1], nd 7 D3 [lf 1 1, lf 2 100]] rfl (fun z hz => by
        simp only [List.mem_cons, List.not_mem_nil, or_false] at hz
        rcases hz with rfl | rfl | rfl | rfl
        · exact nd_row2 RD0 4 (lf 2 100) (lf 3 2) rfl (lf_in _ _ _) (lf_in _ _ _)
        · exact nd_row2 RD1 6 (lf 2 100) (lf 2 100) rfl (lf_in _ _ _) (lf_in _ _ _)
        · exact nd_row1 RD2 15 (lf 1 1) rfl (lf_in _ _ _)
        · exact nd_row2 RD3 7 (lf 1 1) (lf 2 100) rfl (lf_in _ _ _) (lf_in _ _ _)) (by simp)
      have HEX : Hid (∀ z ∈ [nd 4 D0 [lf 2 100, lf 3 2], nd 6 D1 [lf 2 100, lf 2 100], nd 15 D2 [lf 1 1], nd 7 D3 [lf 1 1, lf 2 100]], inferV z = 0 ∧ inferE z = 20) := fun z hz => by
        simp only [List.mem_cons, List.not_mem_nil, or_false] at hz
        rcases hz with rfl | rfl | rfl | rfl
        · exact e_x0 _
        · exact e_x1 _
        · exact e_x2 _
        · exact e_x3 _
      obtain ⟨ks, hks⟩ : ∃ ks, [nd 4 D0 [lf 2 100, lf 3 2], nd 6 D1 [lf 2 100, lf 2 100], nd 15 D2 [lf 1 1], nd 7 D3 [lf 1 1, lf 2 100]] = ks := ⟨_, rfl⟩
      have HKL : Hid (ks.length = 4) := by show _ = _; rw [← hks]; rfl
      rw [hks] at HX HEX
      have HIN0 : Hid ((nd 0 D ks).In w40) := HX
      clear hks HX RD RD0 RD1 RD2 RD3
      go_wp2_with fail
      go_loopw [10, 13, 14, 15, 93] (fun u _ _ _ i wr => ∃ k : Nat, k ≤ 4 ∧ i = .int .i64 k ∧ u = .bool true ∧ Hid (Below w40.heap.size w40 wr)) (fun _ _ _ _ i _ => 4 - (intOf i).toNat)
      case atStart => exact ⟨0, by omega, rfl, rfl, Below.refl _ _⟩
      case round =>
        obtain ⟨k, hk, rfl, rfl, hB⟩ := hrel
        by_cases hk4 : k < 4
        · obtain ⟨y, b, off, hy, hyin, e, hlb, c0, c1, c2⟩ := HIN0.out.kidAt hB.out (k := k) (by have := HKL.out; show k < ks.length; omega)
          simp only [Ex.at', Option.some.injEq, Addr.mk.injEq, and_true] at e
          obtain ⟨rfl, rfl⟩ := e
          have HYE := Lib.hid (HEX.out y (List.mem_of_getElem? hy.out))
          have HYI := Lib.hid (hyin.step hB.out)
          clear hyin
          rw [Nat.zero_add] at c0 c1 c2
          go_wp2_with fail
          have hal : Below wr.heap.size wr (wr.alloc (.cells #[.int .i64 y.op, .int .i64 y.n, .slice y.at' y.ks.length y.cap] 24)) := by (repeat' (first | (with_reducible exact Below.refl _ _) | (with_reducible assumption) | (with_reducible exact Bw.out (by with_reducible assumption)) | (with_reducible refine bw_alloc ?_ _) | (with_reducible refine bw_step ?_ (by with_reducible assumption)) | (with_reducible refine Below.alloc ?_ ?_ _) | (with_reducible refine Below.drew ?_) | (with_reducible refine below_drewN ?_ _) | (with_reducible refine Below.setCell ?_ ?_ _) | (with_reducible refine below_step ?_ (by with_reducible assumption) ?_) | (with_reducible exact Nat.le_refl _) | omega | (simp; omega) | (simp; done)))
          refine (infer_pe y _ (HYI.out.step hal) 0 20 HYE.out).mono ?_
          rintro e w42 ⟨rfl, hb42⟩
          have HB42 : Hid (Below w40.heap.size w40 w42) := hB.out.trans ((hal.trans (hb42.mono hal.size)).mono hB.out.size)
          clear hb42 hal
          go_wp2_with fail
          go_roundw
          case rel => exact ⟨k + 1, by omega, by go_num, rfl, HB42⟩
          case measure => simp [intOf]; omega
        · obtain rfl : k = 4 := by omega
          have HB43 : Below w.heap.size w wr := HB40.trans (hB.out.mono HB40.size)
          obtain ⟨w43, hw43⟩ : ∃ wd, wd = wr := ⟨_, rfl⟩
          subst hw43
          go_wp2_with fail
          refine (infer_pe (lf 0 0) _ (lf_in _ _ _) 0 1 e_none).mono ?_
          rintro e w44 ⟨rfl, hb44⟩
          have HB44 := HB43.trans (hb44.mono HB43.size)
          go_wp2_with fail
          refine (plain_any 7 _).mono ?_
          rintro e w45 ⟨P45, rfl, hP45, hb45⟩
          have HB45 := HB44.trans (hb45.mono HB44.size)
          go_wp2_with fail
          refine (rate_pe (plR 7 P45) _ hP45 true 0 (e_plain _)).mono ?_
          rintro e w46 ⟨rfl, hb46⟩
          have HB46 := HB45.trans (hb46.mono HB45.size)
          go_wp2_with fail
          refine (rate_pe zeR _ ⟨lf_in _ _ _, lf_in _ _ _⟩ false 1 e_zero).mono ?_
          rintro e w47 ⟨rfl, hb47⟩
          have HB47 := HB46.trans (hb47.mono HB46.size)
          clear hP45 hb45 hb46 hb47 hb44 HB44 HB45 HB46
          go_wp2_with fail
          refine (plain_any 7 _).mono ?_
          rintro e w48 ⟨P48, rfl, hP48, hb48⟩
          have HB48 := HB47.trans (hb48.mono HB47.size)
          go_wp2_with fail
          refine (plain_any 8 _).mono ?_
          rintro e w49 ⟨P49, rfl, hP49, hb49⟩
          have HB49 := HB48.trans (hb49.mono HB48.size)
          go_wp2_with fail
          refine (valid_ra [plR 7 P48, plR 8 P49] _ 2 2 _ (by omega) (slr_new [plR 7 P48, plR 8 P49] _ _ rfl rfl (fun x hx => by
            simp only [List.mem_cons, List.not_mem_nil, or_false] at hx
            rcases hx with rfl | rfl
            · exact hP48.step hb49
            · exact hP49) 2 rfl) true (e_two _ _)).mono ?_
          rintro e w50 ⟨rfl, hb50⟩
          have HB50 : Below w.heap.size w w50 := Below.trans (HB49.alloc HB49.size _) (hb50.mono (HB49.alloc HB49.size _).size)
          clear hP48 hP49 hb48 hb49 hb50 HB48 HB49
          go_wp2_with fail
          refine (plain_any 7 _).mono ?_
          rintro e w51 ⟨P51, rfl, hP51, hb51⟩
          have HB51 := HB50.trans (hb51.mono HB50.size)
          go_wp2_with fail
          refine (plain_any 7 _).mono ?_
          rintro e w52 ⟨P52, rfl, hP52, hb52⟩
          have HB52 := HB51.trans (hb52.mono HB51.size)
          go_wp2_with fail
          refine (valid_ra [plR 7 P51, plR 7 P52] _ 2 2 _ (by omega) (slr_new [plR 7 P51, plR 7 P52] _ _ rfl rfl (fun x hx => by
            simp only [List.mem_cons, List.not_mem_nil, or_false] at hx
            rcases hx with rfl | rfl
            · exact hP51.step hb52
            · exact hP52) 2 rfl) false (e_same _ _)).mono ?_
          rintro e w53 ⟨rfl, hb53⟩
          have HB53 : Below w.heap.size w w53 := Below.trans (HB52.alloc HB52.size _) (hb53.mono (HB52.alloc HB52.size _).size)
          go_wp2_with fail
          go_ret
          exact ⟨rfl, HB53⟩

end Go.Proofs.Ytcmodmchnokmgaa
