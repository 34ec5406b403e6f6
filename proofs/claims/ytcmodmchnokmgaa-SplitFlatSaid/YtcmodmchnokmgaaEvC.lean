/-
 The walks of package rate: the map of operators.
-/
import Derived.Test.YtcmodmchnokmgaaEvB
namespace Go.Proofs.Ytcmodmchnokmgaa
set_option linter.unusedSimpArgs false
set_option linter.unusedVariables false
open Go.RowKit
set_option maxRecDepth 100000 in
set_option maxHeartbeats 1600000 in
theorem better_min (a b c d : Int) (B : Nat) (w : World) (hB : Row w B [.int .i64 (-1)]) :
  Calls Try.prog 133 #[.agg #[.int .i64 a, .int .i64 b], .agg #[.int .i64 c, .int .i64 d], .pointer (some ⟨B, 0, none⟩)] w fun e w' => e = vE (ap2 8 a b c d) ∧ Below w.heap.size w w' := by
 have X0 : CellAt w B 0 (.int .i64 (-1)) := hB.cell 0 rfl
 have lB := hB.lt
 have HC := cmp_any a b c d
 have hr := cmp_range a b c d
 obtain ⟨V, hV⟩ : ∃ V, cmpV a b c d = V := ⟨_, rfl⟩
 have ht : ap2 8 a b c d = if V < 0 then (a, b, 0) else (c, d, 0) := by rw [← hV]; rfl
 rw [hV] at HC hr
 rw [ht]
 clear hV ht hB
 have H := Lib.hid HC
 clear HC
 rcases hr with rfl | rfl | rfl
 ·
  rw [if_pos (by decide), vE_ok rfl]
  go_enter Try.func133, Try.ntmps133
  go_wp2_with fail
  refine AnyJ.beginP (fun w' : World => w'.cell? ⟨w.heap.size, 0, none⟩ = some (.int .i64 (a)) ∧ w'.cell? ⟨w.heap.size, 1, none⟩ = some (.int .i64 (b)) ∧ w'.cell? ⟨w.heap.size + 1, 0, none⟩ = some (.int .i64 (c)) ∧ w'.cell? ⟨w.heap.size + 1, 1, none⟩ = some (.int .i64 (d)) ∧ w'.cell? ⟨w.heap.size + 1 + 1, 0, none⟩ = some (.int .i64 (0)) ∧ w'.cell? ⟨w.heap.size + 1 + 1, 1, none⟩ = some (.int .i64 (0)) ∧ w'.cell? ⟨B, 0, none⟩ = some (.int .i64 (-1))) (fun _ => true) (by kernel_rfl) ?_ (fun hS0 => ?_)
  ·
   exact (show ∀ (P S : World → Prop) (W : World), P W → (∀ w', P w' → S w') → S W from fun P S W h f => f W h) (fun w' : World => Row w' (w.heap.size) [.int .i64 (a), .int .i64 (b)] ∧ Row w' (w.heap.size + 1) [.int .i64 (c), .int .i64 (d)] ∧ Row w' (w.heap.size + 1 + 1) [.int .i64 (0), .int .i64 (0)] ∧ w'.cell? ⟨B, 0, none⟩ = some (.int .i64 (-1))) (fun w' : World => w'.cell? ⟨w.heap.size, 0, none⟩ = some (.int .i64 (a)) ∧ w'.cell? ⟨w.heap.size, 1, none⟩ = some (.int .i64 (b)) ∧ w'.cell? ⟨w.heap.size + 1, 0, none⟩ = some (.int .i64 (c)) ∧ w'.cell? ⟨w.heap.size + 1, 1, none⟩ = some (.int .i64 (d)) ∧ w'.cell? ⟨w.heap.size + 1 + 1, 0, none⟩ = some (.int .i64 (0)) ∧ w'.cell? ⟨w.heap.size + 1 + 1, 1, none⟩ = some (.int .i64 (0)) ∧ w'.cell? ⟨B, 0, none⟩ = some (.int .i64 (-1))) _ (⟨by (repeat' (first | (with_reducible assumption) | (with_reducible refine Row.new' _ _ _ (by first | rfl | (simp; done) | omega)) | (with_reducible first | refine Row.alloc ?_ _ | refine Row.drew ?_ | refine Row.step ?_ (by assumption) | refine Row.drewN ?_ _) | (with_reducible refine Row.set2' ?_ _ _; first | exact ⟨_, _, by assumption⟩ | exact ⟨_, _, Row.alloc (by assumption) _⟩) | (with_reducible refine Row.other ?_ (by first | omega | (simp; omega)) _))), by (repeat' (first | (with_reducible assumption) | (with_reducible refine Row.new' _ _ _ (by first | rfl | (simp; done) | omega)) | (with_reducible first | refine Row.alloc ?_ _ | refine Row.drew ?_ | refine Row.step ?_ (by assumption) | refine Row.drewN ?_ _) | (with_reducible refine Row.set2' ?_ _ _; first | exact ⟨_, _, by assumption⟩ | exact ⟨_, _, Row.alloc (by assumption) _⟩) | (with_reducible refine Row.other ?_ (by first | omega | (simp; omega)) _))), by (repeat' (first | (with_reducible assumption) | (with_reducible refine Row.new' _ _ _ (by first | rfl | (simp; done) | omega)) | (with_reducible first | refine Row.alloc ?_ _ | refine Row.drew ?_ | refine Row.step ?_ (by assumption) | refine Row.drewN ?_ _) | (with_reducible refine Row.set2' ?_ _ _; first | exact ⟨_, _, by assumption⟩ | exact ⟨_, _, Row.alloc (by assumption) _⟩) | (with_reducible refine Row.other ?_ (by first | omega | (simp; omega)) _))), CellAt.out (by (repeat' (first | (with_reducible assumption) | (with_reducible refine CellAt.drew ?_) | (with_reducible refine CellAt.drewN ?_ _) | (with_reducible refine CellAt.alloc ?_ _) | (with_reducible refine CellAt.step ?_ (by with_reducible assumption)))))⟩) (fun w' ⟨hP0, hP1, hP2, hF0⟩ => ⟨hP0.cell 0 rfl, hP0.cell 1 rfl, hP1.cell 0 rfl, hP1.cell 1 rfl, hP2.cell 0 rfl, hP2.cell 1 rfl, hF0⟩)
  refine AnyJ.takeD (i := 0) (d := some 6) (v := ?_) rfl (by kernel_rfl) (by kernel_rfl) (by kernel_rfl) (by kernel_rfl) (by kernel_rfl) (fun _ _ _ h => h) (Or.inl ⟨by kernel_rfl, ?_⟩) hS0 ?_
  rotate_left
  ·
   intro w' hS
   obtain ⟨sF0, sF1, sF2, sF3, sF4, sF5, sF6⟩ := hS
   go_simp
   try with_reducible rfl
  refine AnyJ.takeD (i := 1) (d := some 7) (v := ?_) rfl (by kernel_rfl) (by kernel_rfl) (by kernel_rfl) (by kernel_rfl) (by kernel_rfl) (fun _ _ _ h => h) (Or.inl ⟨by kernel_rfl, ?_⟩) hS0 ?_
  rotate_left
  ·
   intro w' hS
   obtain ⟨sF0, sF1, sF2, sF3, sF4, sF5, sF6⟩ := hS
   go_simp
   try with_reducible rfl
  refine AnyJ.takeD (i := 3) (d := some 9) (v := ?_) rfl (by kernel_rfl) (by kernel_rfl) (by kernel_rfl) (by kernel_rfl) (by kernel_rfl) (fun _ _ _ h => h) (Or.inl ⟨by kernel_rfl, ?_⟩) hS0 ?_
  rotate_left
  ·
   intro w' hS
   obtain ⟨sF0, sF1, sF2, sF3, sF4, sF5, sF6⟩ := hS
   go_simp
   try with_reducible rfl
  refine AnyJ.one (i := 2) (by kernel_rfl) rfl (fun Kz hKz => ?_)
  go_simp
  refine (H.out _).mono ?_
  rintro e w1 ⟨rfl, hb1⟩
  have R_x_1 : Row w1 (w.heap.size) [.int .i64 (a), .int .i64 (b)] := by (repeat' (first | (with_reducible assumption) | (with_reducible refine Row.new' _ _ _ (by first | rfl | (simp; done) | omega)) | (with_reducible first | refine Row.alloc ?_ _ | refine Row.drew ?_ | refine Row.step ?_ (by assumption) | refine Row.drewN ?_ _) | (with_reducible refine Row.set2' ?_ _ _; first | exact ⟨_, _, by assumption⟩ | exact ⟨_, _, Row.alloc (by assumption) _⟩) | (with_reducible refine Row.other ?_ (by first | omega | (simp; omega)) _)))
  have c_x_0_1 := R_x_1.cell 0 rfl
  have c_x_1_1 := R_x_1.cell 1 rfl
  have l_x_1 := R_x_1.lt
  have R_y_1 : Row w1 (w.heap.size + 1) [.int .i64 (c), .int .i64 (d)] := by (repeat' (first | (with_reducible assumption) | (with_reducible refine Row.new' _ _ _ (by first | rfl | (simp; done) | omega)) | (with_reducible first | refine Row.alloc ?_ _ | refine Row.drew ?_ | refine Row.step ?_ (by assumption) | refine Row.drewN ?_ _) | (with_reducible refine Row.set2' ?_ _ _; first | exact ⟨_, _, by assumption⟩ | exact ⟨_, _, Row.alloc (by assumption) _⟩) | (with_reducible refine Row.other ?_ (by first | omega | (simp; omega)) _)))
  have c_y_0_1 := R_y_1.cell 0 rfl
  have c_y_1_1 := R_y_1.cell 1 rfl
  have l_y_1 := R_y_1.lt
  have R_o_1 : Row w1 (w.heap.size + 1 + 1) [.int .i64 (0), .int .i64 (0)] := by (repeat' (first | (with_reducible assumption) | (with_reducible refine Row.new' _ _ _ (by first | rfl | (simp; done) | omega)) | (with_reducible first | refine Row.alloc ?_ _ | refine Row.drew ?_ | refine Row.step ?_ (by assumption) | refine Row.drewN ?_ _) | (with_reducible refine Row.set2' ?_ _ _; first | exact ⟨_, _, by assumption⟩ | exact ⟨_, _, Row.alloc (by assumption) _⟩) | (with_reducible refine Row.other ?_ (by first | omega | (simp; omega)) _)))
  have c_o_0_1 := R_o_1.cell 0 rfl
  have c_o_1_1 := R_o_1.cell 1 rfl
  have z_o_0_1 := R_o_1.frozen 0
  have z_o_1_1 := R_o_1.frozen 1
  have l_o_1 := R_o_1.lt
  have HB1 : Below w.heap.size w w1 := by (repeat' (first | (with_reducible first | exact Below.refl _ _ | assumption | exact Bw.out (by assumption) | refine bw_alloc ?_ _ | refine bw_step ?_ (by assumption) | refine Below.alloc ?_ ?_ _ | refine Below.drew ?_ | refine below_drewN ?_ _ | refine Below.setCell ?_ ?_ _ | refine below_step ?_ (by assumption) ?_ | exact Nat.le_refl _) | omega | (simp; omega) | (simp; done)))
  have hz1 := HB1.size
  obtain ⟨sF0, sF1, sF2, sF3, sF4, sF5, sF6⟩ := hS0
  have hS1 : (fun w' : World => w'.cell? ⟨w.heap.size, 0, none⟩ = some (.int .i64 (a)) ∧ w'.cell? ⟨w.heap.size, 1, none⟩ = some (.int .i64 (b)) ∧ w'.cell? ⟨w.heap.size + 1, 0, none⟩ = some (.int .i64 (c)) ∧ w'.cell? ⟨w.heap.size + 1, 1, none⟩ = some (.int .i64 (d)) ∧ w'.cell? ⟨w.heap.size + 1 + 1, 0, none⟩ = some (.int .i64 (0)) ∧ w'.cell? ⟨w.heap.size + 1 + 1, 1, none⟩ = some (.int .i64 (0)) ∧ w'.cell? ⟨B, 0, none⟩ = some (.int .i64 (-1))) w1 := ⟨c_x_0_1, c_x_1_1, c_y_0_1, c_y_1_1, c_o_0_1, c_o_1_1, (by first | exact (CellAt.step sF6 (by (repeat' (first | (with_reducible first | exact Below.refl _ _ | assumption | exact Bw.out (by assumption) | refine bw_alloc ?_ _ | refine bw_step ?_ (by assumption) | refine Below.alloc ?_ ?_ _ | refine Below.drew ?_ | refine below_drewN ?_ _ | refine Below.setCell ?_ ?_ _ | refine below_step ?_ (by assumption) ?_ | exact Nat.le_refl _) | omega | (simp; omega) | (simp; done))))).out | exact SlC.step sF6 (by (repeat' (first | (with_reducible first | exact Below.refl _ _ | assumption | exact Bw.out (by assumption) | refine bw_alloc ?_ _ | refine bw_step ?_ (by assumption) | refine Below.alloc ?_ ?_ _ | refine Below.drew ?_ | refine below_drewN ?_ _ | refine Below.setCell ?_ ?_ _ | refine below_step ?_ (by assumption) ?_ | exact Nat.le_refl _) | omega | (simp; omega) | (simp; done)))))⟩
  clear sF0 sF1 sF2 sF3 sF4 sF5 sF6
  refine hKz _ _ (fun _ => hS1) ?_
  clear hKz Kz
  refine AnyJ.takeD (i := 4) (d := some 10) (v := ?_) rfl (by kernel_rfl) (by kernel_rfl) (by kernel_rfl) (by kernel_rfl) (by kernel_rfl) (fun _ _ _ h => h) (Or.inl ⟨by kernel_rfl, ?_⟩) hS1 ?_
  rotate_left
  ·
   intro w' hS
   clear hS
   go_simp
   try with_reducible rfl
  refine AnyJ.takeD (i := 5) (d := some 11) (v := ?_) rfl (by kernel_rfl) (by kernel_rfl) (by kernel_rfl) (by kernel_rfl) (by kernel_rfl) (fun _ _ _ h => h) (Or.inl ⟨by kernel_rfl, ?_⟩) hS1 ?_
  rotate_left
  ·
   intro w' hS
   clear hS
   go_simp
   try with_reducible rfl
  refine AnyJ.done (by kernel_rfl) ?_ _
  clear hS1
  try simp only [Act.put, List.setIfInBounds_toArray, List.set_cons_zero, List.set_cons_succ]
  go_wp2_with fail
  have RP := R_o_1.set2 (.int .i64 (a)) (.int .i64 (b))
  have q0 := RP.cell 0 rfl
  have q1 := RP.cell 1 rfl
  refine bodyPost_ret (v := .agg #[.int .i64 (a), .int .i64 (b)]) (by simp [results, Try.results133, go_sem, q0, q1]) rfl ⟨rfl, by (repeat' (first | (with_reducible first | exact Below.refl _ _ | assumption | exact Bw.out (by assumption) | refine bw_alloc ?_ _ | refine bw_step ?_ (by assumption) | refine Below.alloc ?_ ?_ _ | refine Below.drew ?_ | refine below_drewN ?_ _ | refine Below.setCell ?_ ?_ _ | refine below_step ?_ (by assumption) ?_ | exact Nat.le_refl _) | omega | (simp; omega) | (simp; done)))⟩
 ·
  rw [if_neg (by decide), vE_ok rfl]
  go_enter Try.func133, Try.ntmps133
  go_wp2_with fail
  refine AnyJ.beginP (fun w' : World => w'.cell? ⟨w.heap.size, 0, none⟩ = some (.int .i64 (a)) ∧ w'.cell? ⟨w.heap.size, 1, none⟩ = some (.int .i64 (b)) ∧ w'.cell? ⟨w.heap.size + 1, 0, none⟩ = some (.int .i64 (c)) ∧ w'.cell? ⟨w.heap.size + 1, 1, none⟩ = some (.int .i64 (d)) ∧ w'.cell? ⟨w.heap.size + 1 + 1, 0, none⟩ = some (.int .i64 (0)) ∧ w'.cell? ⟨w.heap.size + 1 + 1, 1, none⟩ = some (.int .i64 (0)) ∧ w'.cell? ⟨B, 0, none⟩ = some (.int .i64 (-1))) (fun _ => true) (by kernel_rfl) ?_ (fun hS0 => ?_)
  ·
   exact (show ∀ (P S : World → Prop) (W : World), P W → (∀ w', P w' → S w') → S W from fun P S W h f => f W h) (fun w' : World => Row w' (w.heap.size) [.int .i64 (a), .int .i64 (b)] ∧ Row w' (w.heap.size + 1) [.int .i64 (c), .int .i64 (d)] ∧ Row w' (w.heap.size + 1 + 1) [.int .i64 (0), .int .i64 (0)] ∧ w'.cell? ⟨B, 0, none⟩ = some (.int .i64 (-1))) (fun w' : World => w'.cell? ⟨w.heap.size, 0, none⟩ = some (.int .i64 (a)) ∧ w'.cell? ⟨w.heap.size, 1, none⟩ = some (.int .i64 (b)) ∧ w'.cell? ⟨w.heap.size + 1, 0, none⟩ = some (.int .i64 (c)) ∧ w'.cell? ⟨w.heap.size + 1, 1, none⟩ = some (.int .i64 (d)) ∧ w'.cell? ⟨w.heap.size + 1 + 1, 0, none⟩ = some (.int .i64 (0)) ∧ w'.cell? ⟨w.heap.size + 1 + 1, 1, none⟩ = some (.int .i64 (0)) ∧ w'.cell? ⟨B, 0, none⟩ = some (.int .i64 (-1))) _ (⟨by (repeat' (first | (with_reducible assumption) | (with_reducible refine Row.new' _ _ _ (by first | rfl | (simp; done) | omega)) | (with_reducible first | refine Row.alloc ?_ _ | refine Row.drew ?_ | refine Row.step ?_ (by assumption) | refine Row.drewN ?_ _) | (with_reducible refine Row.set2' ?_ _ _; first | exact ⟨_, _, by assumption⟩ | exact ⟨_, _, Row.alloc (by assumption) _⟩) | (with_reducible refine Row.other ?_ (by first | omega | (simp; omega)) _))), by (repeat' (first | (with_reducible assumption) | (with_reducible refine Row.new' _ _ _ (by first | rfl | (simp; done) | omega)) | (with_reducible first | refine Row.alloc ?_ _ | refine Row.drew ?_ | refine Row.step ?_ (by assumption) | refine Row.drewN ?_ _) | (with_reducible refine Row.set2' ?_ _ _; first | exact ⟨_, _, by assumption⟩ | exact ⟨_, _, Row.alloc (by assumption) _⟩) | (with_reducible refine Row.other ?_ (by first | omega | (simp; omega)) _))), by (repeat' (first | (with_reducible assumption) | (with_reducible refine Row.new' _ _ _ (by first | rfl | (simp; done) | omega)) | (with_reducible first | refine Row.alloc ?_ _ | refine Row.drew ?_ | refine Row.step ?_ (by assumption) | refine Row.drewN ?_ _) | (with_reducible refine Row.set2' ?_ _ _; first | exact ⟨_, _, by assumption⟩ | exact ⟨_, _, Row.alloc (by assumption) _⟩) | (with_reducible refine Row.other ?_ (by first | omega | (simp; omega)) _))), CellAt.out (by (repeat' (first | (with_reducible assumption) | (with_reducible refine CellAt.drew ?_) | (with_reducible refine CellAt.drewN ?_ _) | (with_reducible refine CellAt.alloc ?_ _) | (with_reducible refine CellAt.step ?_ (by with_reducible assumption)))))⟩) (fun w' ⟨hP0, hP1, hP2, hF0⟩ => ⟨hP0.cell 0 rfl, hP0.cell 1 rfl, hP1.cell 0 rfl, hP1.cell 1 rfl, hP2.cell 0 rfl, hP2.cell 1 rfl, hF0⟩)
  refine AnyJ.takeD (i := 0) (d := some 6) (v := ?_) rfl (by kernel_rfl) (by kernel_rfl) (by kernel_rfl) (by kernel_rfl) (by kernel_rfl) (fun _ _ _ h => h) (Or.inl ⟨by kernel_rfl, ?_⟩) hS0 ?_
  rotate_left
  ·
   intro w' hS
   obtain ⟨sF0, sF1, sF2, sF3, sF4, sF5, sF6⟩ := hS
   go_simp
   try with_reducible rfl
  refine AnyJ.takeD (i := 1) (d := some 7) (v := ?_) rfl (by kernel_rfl) (by kernel_rfl) (by kernel_rfl) (by kernel_rfl) (by kernel_rfl) (fun _ _ _ h => h) (Or.inl ⟨by kernel_rfl, ?_⟩) hS0 ?_
  rotate_left
  ·
   intro w' hS
   obtain ⟨sF0, sF1, sF2, sF3, sF4, sF5, sF6⟩ := hS
   go_simp
   try with_reducible rfl
  refine AnyJ.takeD (i := 3) (d := some 9) (v := ?_) rfl (by kernel_rfl) (by kernel_rfl) (by kernel_rfl) (by kernel_rfl) (by kernel_rfl) (fun _ _ _ h => h) (Or.inl ⟨by kernel_rfl, ?_⟩) hS0 ?_
  rotate_left
  ·
   intro w' hS
   obtain ⟨sF0, sF1, sF2, sF3, sF4, sF5, sF6⟩ := hS
   go_simp
   try with_reducible rfl
  refine AnyJ.one (i := 2) (by kernel_rfl) rfl (fun Kz hKz => ?_)
  go_simp
  refine (H.out _).mono ?_
  rintro e w1 ⟨rfl, hb1⟩
  have R_x_1 : Row w1 (w.heap.size) [.int .i64 (a), .int .i64 (b)] := by (repeat' (first | (with_reducible assumption) | (with_reducible refine Row.new' _ _ _ (by first | rfl | (simp; done) | omega)) | (with_reducible first | refine Row.alloc ?_ _ | refine Row.drew ?_ | refine Row.step ?_ (by assumption) | refine Row.drewN ?_ _) | (with_reducible refine Row.set2' ?_ _ _; first | exact ⟨_, _, by assumption⟩ | exact ⟨_, _, Row.alloc (by assumption) _⟩) | (with_reducible refine Row.other ?_ (by first | omega | (simp; omega)) _)))
  have c_x_0_1 := R_x_1.cell 0 rfl
  have c_x_1_1 := R_x_1.cell 1 rfl
  have l_x_1 := R_x_1.lt
  have R_y_1 : Row w1 (w.heap.size + 1) [.int .i64 (c), .int .i64 (d)] := by (repeat' (first | (with_reducible assumption) | (with_reducible refine Row.new' _ _ _ (by first | rfl | (simp; done) | omega)) | (with_reducible first | refine Row.alloc ?_ _ | refine Row.drew ?_ | refine Row.step ?_ (by assumption) | refine Row.drewN ?_ _) | (with_reducible refine Row.set2' ?_ _ _; first | exact ⟨_, _, by assumption⟩ | exact ⟨_, _, Row.alloc (by assumption) _⟩) | (with_reducible refine Row.other ?_ (by first | omega | (simp; omega)) _)))
  have c_y_0_1 := R_y_1.cell 0 rfl
  have c_y_1_1 := R_y_1.cell 1 rfl
  have l_y_1 := R_y_1.lt
  have R_o_1 : Row w1 (w.heap.size + 1 + 1) [.int .i64 (0), .int .i64 (0)] := by (repeat' (first | (with_reducible assumption) | (with_reducible refine Row.new' _ _ _ (by first | rfl | (simp; done) | omega)) | (with_reducible first | refine Row.alloc ?_ _ | refine Row.drew ?_ | refine Row.step ?_ (by assumption) | refine Row.drewN ?_ _) | (with_reducible refine Row.set2' ?_ _ _; first | exact ⟨_, _, by assumption⟩ | exact ⟨_, _, Row.alloc (by assumption) _⟩) | (with_reducible refine Row.other ?_ (by first | omega | (simp; omega)) _)))
  have c_o_0_1 := R_o_1.cell 0 rfl
  have c_o_1_1 := R_o_1.cell 1 rfl
  have z_o_0_1 := R_o_1.frozen 0
  have z_o_1_1 := R_o_1.frozen 1
  have l_o_1 := R_o_1.lt
  have HB1 : Below w.heap.size w w1 := by (repeat' (first | (with_reducible first | exact Below.refl _ _ | assumption | exact Bw.out (by assumption) | refine bw_alloc ?_ _ | refine bw_step ?_ (by assumption) | refine Below.alloc ?_ ?_ _ | refine Below.drew ?_ | refine below_drewN ?_ _ | refine Below.setCell ?_ ?_ _ | refine below_step ?_ (by assumption) ?_ | exact Nat.le_refl _) | omega | (simp; omega) | (simp; done)))
  have hz1 := HB1.size
  obtain ⟨sF0, sF1, sF2, sF3, sF4, sF5, sF6⟩ := hS0
  have hS1 : (fun w' : World => w'.cell? ⟨w.heap.size, 0, none⟩ = some (.int .i64 (a)) ∧ w'.cell? ⟨w.heap.size, 1, none⟩ = some (.int .i64 (b)) ∧ w'.cell? ⟨w.heap.size + 1, 0, none⟩ = some (.int .i64 (c)) ∧ w'.cell? ⟨w.heap.size + 1, 1, none⟩ = some (.int .i64 (d)) ∧ w'.cell? ⟨w.heap.size + 1 + 1, 0, none⟩ = some (.int .i64 (0)) ∧ w'.cell? ⟨w.heap.size + 1 + 1, 1, none⟩ = some (.int .i64 (0)) ∧ w'.cell? ⟨B, 0, none⟩ = some (.int .i64 (-1))) w1 := ⟨c_x_0_1, c_x_1_1, c_y_0_1, c_y_1_1, c_o_0_1, c_o_1_1, (by first | exact (CellAt.step sF6 (by (repeat' (first | (with_reducible first | exact Below.refl _ _ | assumption | exact Bw.out (by assumption) | refine bw_alloc ?_ _ | refine bw_step ?_ (by assumption) | refine Below.alloc ?_ ?_ _ | refine Below.drew ?_ | refine below_drewN ?_ _ | refine Below.setCell ?_ ?_ _ | refine below_step ?_ (by assumption) ?_ | exact Nat.le_refl _) | omega | (simp; omega) | (simp; done))))).out | exact SlC.step sF6 (by (repeat' (first | (with_reducible first | exact Below.refl _ _ | assumption | exact Bw.out (by assumption) | refine bw_alloc ?_ _ | refine bw_step ?_ (by assumption) | refine Below.alloc ?_ ?_ _ | refine Below.drew ?_ | refine below_drewN ?_ _ | refine Below.setCell ?_ ?_ _ | refine below_step ?_ (by assumption) ?_ | exact Nat.le_refl _) | omega | (simp; omega) | (simp; done)))))⟩
  clear sF0 sF1 sF2 sF3 sF4 sF5 sF6
  refine hKz _ _ (fun _ => hS1) ?_
  clear hKz Kz
  refine AnyJ.takeD (i := 4) (d := some 10) (v := ?_) rfl (by kernel_rfl) (by kernel_rfl) (by kernel_rfl) (by kernel_rfl) (by kernel_rfl) (fun _ _ _ h => h) (Or.inl ⟨by kernel_rfl, ?_⟩) hS1 ?_
  rotate_left
  ·
   intro w' hS
   clear hS
   go_simp
   try with_reducible rfl
  refine AnyJ.takeD (i := 5) (d := some 11) (v := ?_) rfl (by kernel_rfl) (by kernel_rfl) (by kernel_rfl) (by kernel_rfl) (by kernel_rfl) (fun _ _ _ h => h) (Or.inl ⟨by kernel_rfl, ?_⟩) hS1 ?_
  rotate_left
  ·
   intro w' hS
   clear hS
   go_simp
   try with_reducible rfl
  refine AnyJ.done (by kernel_rfl) ?_ _
  clear hS1
  try simp only [Act.put, List.setIfInBounds_toArray, List.set_cons_zero, List.set_cons_succ]
  go_wp2_with fail
  have RP := R_o_1.set2 (.int .i64 (c)) (.int .i64 (d))
  have q0 := RP.cell 0 rfl
  have q1 := RP.cell 1 rfl
  refine bodyPost_ret (v := .agg #[.int .i64 (c), .int .i64 (d)]) (by simp [results, Try.results133, go_sem, q0, q1]) rfl ⟨rfl, by (repeat' (first | (with_reducible first | exact Below.refl _ _ | assumption | exact Bw.out (by assumption) | refine bw_alloc ?_ _ | refine bw_step ?_ (by assumption) | refine Below.alloc ?_ ?_ _ | refine Below.drew ?_ | refine below_drewN ?_ _ | refine Below.setCell ?_ ?_ _ | refine below_step ?_ (by assumption) ?_ | exact Nat.le_refl _) | omega | (simp; omega) | (simp; done)))⟩
 ·
  rw [if_neg (by decide), vE_ok rfl]
  go_enter Try.func133, Try.ntmps133
  go_wp2_with fail
  refine AnyJ.beginP (fun w' : World => w'.cell? ⟨w.heap.size, 0, none⟩ = some (.int .i64 (a)) ∧ w'.cell? ⟨w.heap.size, 1, none⟩ = some (.int .i64 (b)) ∧ w'.cell? ⟨w.heap.size + 1, 0, none⟩ = some (.int .i64 (c)) ∧ w'.cell? ⟨w.heap.size + 1, 1, none⟩ = some (.int .i64 (d)) ∧ w'.cell? ⟨w.heap.size + 1 + 1, 0, none⟩ = some (.int .i64 (0)) ∧ w'.cell? ⟨w.heap.size + 1 + 1, 1, none⟩ = some (.int .i64 (0)) ∧ w'.cell? ⟨B, 0, none⟩ = some (.int .i64 (-1))) (fun _ => true) (by kernel_rfl) ?_ (fun hS0 => ?_)
  ·
   exact (show ∀ (P S : World → Prop) (W : World), P W → (∀ w', P w' → S w') → S W from fun P S W h f => f W h) (fun w' : World => Row w' (w.heap.size) [.int .i64 (a), .int .i64 (b)] ∧ Row w' (w.heap.size + 1) [.int .i64 (c), .int .i64 (d)] ∧ Row w' (w.heap.size + 1 + 1) [.int .i64 (0), .int .i64 (0)] ∧ w'.cell? ⟨B, 0, none⟩ = some (.int .i64 (-1))) (fun w' : World => w'.cell? ⟨w.heap.size, 0, none⟩ = some (.int .i64 (a)) ∧ w'.cell? ⟨w.heap.size, 1, none⟩ = some (.int .i64 (b)) ∧ w'.cell? ⟨w.heap.size + 1, 0, none⟩ = some (.int .i64 (c)) ∧ w'.cell? ⟨w.heap.size + 1, 1, none⟩ = some (.int .i64 (d)) ∧ w'.cell? ⟨w.heap.size + 1 + 1, 0, none⟩ = some (.int .i64 (0)) ∧ w'.cell? ⟨w.heap.size + 1 + 1, 1, none⟩ = some (.int .i64 (0)) ∧ w'.cell? ⟨B, 0, none⟩ = some (.int .i64 (-1))) _ (⟨by (repeat' (first | (with_reducible assumption) | (with_reducible refine Row.new' _ _ _ (by first | rfl | (simp; done) | omega)) | (with_reducible first | refine Row.alloc ?_ _ | refine Row.drew ?_ | refine Row.step ?_ (by assumption) | refine Row.drewN ?_ _) | (with_reducible refine Row.set2' ?_ _ _; first | exact ⟨_, _, by assumption⟩ | exact ⟨_, _, Row.alloc (by assumption) _⟩) | (with_reducible refine Row.other ?_ (by first | omega | (simp; omega)) _))), by (repeat' (first | (with_reducible assumption) | (with_reducible refine Row.new' _ _ _ (by first | rfl | (simp; done) | omega)) | (with_reducible first | refine Row.alloc ?_ _ | refine Row.drew ?_ | refine Row.step ?_ (by assumption) | refine Row.drewN ?_ _) | (with_reducible refine Row.set2' ?_ _ _; first | exact ⟨_, _, by assumption⟩ | exact ⟨_, _, Row.alloc (by assumption) _⟩) | (with_reducible refine Row.other ?_ (by first | omega | (simp; omega)) _))), by (repeat' (first | (with_reducible assumption) | (with_reducible refine Row.new' _ _ _ (by first | rfl | (simp; done) | omega)) | (with_reducible first | refine Row.alloc ?_ _ | refine Row.drew ?_ | refine Row.step ?_ (by assumption) | refine Row.drewN ?_ _) | (with_reducible refine Row.set2' ?_ _ _; first | exact ⟨_, _, by assumption⟩ | exact ⟨_, _, Row.alloc (by assumption) _⟩) | (with_reducible refine Row.other ?_ (by first | omega | (simp; omega)) _))), CellAt.out (by (repeat' (first | (with_reducible assumption) | (with_reducible refine CellAt.drew ?_) | (with_reducible refine CellAt.drewN ?_ _) | (with_reducible refine CellAt.alloc ?_ _) | (with_reducible refine CellAt.step ?_ (by with_reducible assumption)))))⟩) (fun w' ⟨hP0, hP1, hP2, hF0⟩ => ⟨hP0.cell 0 rfl, hP0.cell 1 rfl, hP1.cell 0 rfl, hP1.cell 1 rfl, hP2.cell 0 rfl, hP2.cell 1 rfl, hF0⟩)
  refine AnyJ.takeD (i := 0) (d := some 6) (v := ?_) rfl (by kernel_rfl) (by kernel_rfl) (by kernel_rfl) (by kernel_rfl) (by kernel_rfl) (fun _ _ _ h => h) (Or.inl ⟨by kernel_rfl, ?_⟩) hS0 ?_
  rotate_left
  ·
   intro w' hS
   obtain ⟨sF0, sF1, sF2, sF3, sF4, sF5, sF6⟩ := hS
   go_simp
   try with_reducible rfl
  refine AnyJ.takeD (i := 1) (d := some 7) (v := ?_) rfl (by kernel_rfl) (by kernel_rfl) (by kernel_rfl) (by kernel_rfl) (by kernel_rfl) (fun _ _ _ h => h) (Or.inl ⟨by kernel_rfl, ?_⟩) hS0 ?_
  rotate_left
  ·
   intro w' hS
   obtain ⟨sF0, sF1, sF2, sF3, sF4, sF5, sF6⟩ := hS
   go_simp
   try with_reducible rfl
  refine AnyJ.takeD (i := 3) (d := some 9) (v := ?_) rfl (by kernel_rfl) (by kernel_rfl) (by kernel_rfl) (by kernel_rfl) (by kernel_rfl) (fun _ _ _ h => h) (Or.inl ⟨by kernel_rfl, ?_⟩) hS0 ?_
  rotate_left
  ·
   intro w' hS
   obtain ⟨sF0, sF1, sF2, sF3, sF4, sF5, sF6⟩ := hS
   go_simp
   try with_reducible rfl
  refine AnyJ.one (i := 2) (by kernel_rfl) rfl (fun Kz hKz => ?_)
  go_simp
  refine (H.out _).mono ?_
  rintro e w1 ⟨rfl, hb1⟩
  have R_x_1 : Row w1 (w.heap.size) [.int .i64 (a), .int .i64 (b)] := by (repeat' (first | (with_reducible assumption) | (with_reducible refine Row.new' _ _ _ (by first | rfl | (simp; done) | omega)) | (with_reducible first | refine Row.alloc ?_ _ | refine Row.drew ?_ | refine Row.step ?_ (by assumption) | refine Row.drewN ?_ _) | (with_reducible refine Row.set2' ?_ _ _; first | exact ⟨_, _, by assumption⟩ | exact ⟨_, _, Row.alloc (by assumption) _⟩) | (with_reducible refine Row.other ?_ (by first | omega | (simp; omega)) _)))
  have c_x_0_1 := R_x_1.cell 0 rfl
  have c_x_1_1 := R_x_1.cell 1 rfl
  have l_x_1 := R_x_1.lt
  have R_y_1 : Row w1 (w.heap.size + 1) [.int .i64 (c), .int .i64 (d)] := by (repeat' (first | (with_reducible assumption) | (with_reducible refine Row.new' _ _ _ (by first | rfl | (simp; done) | omega)) | (with_reducible first | refine Row.alloc ?_ _ | refine Row.drew ?_ | refine Row.step ?_ (by assumption) | refine Row.drewN ?_ _) | (with_reducible refine Row.set2' ?_ _ _; first | exact ⟨_, _, by assumption⟩ | exact ⟨_, _, Row.alloc (by assumption) _⟩) | (with_reducible refine Row.other ?_ (by first | omega | (simp; omega)) _)))
  have c_y_0_1 := R_y_1.cell 0 rfl
  have c_y_1_1 := R_y_1.cell 1 rfl
  have l_y_1 := R_y_1.lt
  have R_o_1 : Row w1 (w.heap.size + 1 + 1) [.int .i64 (0), .int .i64 (0)] := by (repeat' (first | (with_reducible assumption) | (with_reducible refine Row.new' _ _ _ (by first | rfl | (simp; done) | omega)) | (with_reducible first | refine Row.alloc ?_ _ | refine Row.drew ?_ | refine Row.step ?_ (by assumption) | refine Row.drewN ?_ _) | (with_reducible refine Row.set2' ?_ _ _; first | exact ⟨_, _, by assumption⟩ | exact ⟨_, _, Row.alloc (by assumption) _⟩) | (with_reducible refine Row.other ?_ (by first | omega | (simp; omega)) _)))
  have c_o_0_1 := R_o_1.cell 0 rfl
  have c_o_1_1 := R_o_1.cell 1 rfl
  have z_o_0_1 := R_o_1.frozen 0
  have z_o_1_1 := R_o_1.frozen 1
  have l_o_1 := R_o_1.lt
  have HB1 : Below w.heap.size w w1 := by (repeat' (first | (with_reducible first | exact Below.refl _ _ | assumption | exact Bw.out (by assumption) | refine bw_alloc ?_ _ | refine bw_step ?_ (by assumption) | refine Below.alloc ?_ ?_ _ | refine Below.drew ?_ | refine below_drewN ?_ _ | refine Below.setCell ?_ ?_ _ | refine below_step ?_ (by assumption) ?_ | exact Nat.le_refl _) | omega | (simp; omega) | (simp; done)))
  have hz1 := HB1.size
  obtain ⟨sF0, sF1, sF2, sF3, sF4, sF5, sF6⟩ := hS0
  have hS1 : (fun w' : World => w'.cell? ⟨w.heap.size, 0, none⟩ = some (.int .i64 (a)) ∧ w'.cell? ⟨w.heap.size, 1, none⟩ = some (.int .i64 (b)) ∧ w'.cell? ⟨w.heap.size + 1, 0, none⟩ = some (.int .i64 (c)) ∧ w'.cell? ⟨w.heap.size + 1, 1, none⟩ = some (.int .i64 (d)) ∧ w'.cell? ⟨w.heap.size + 1 + 1, 0, none⟩ = some (.int .i64 (0)) ∧ w'.cell? ⟨w.heap.size + 1 + 1, 1, none⟩ = some (.int .i64 (0)) ∧ w'.cell? ⟨B, 0, none⟩ = some (.int .i64 (-1))) w1 := ⟨c_x_0_1, c_x_1_1, c_y_0_1, c_y_1_1, c_o_0_1, c_o_1_1, (by first | exact (CellAt.step sF6 (by (repeat' (first | (with_reducible first | exact Below.refl _ _ | assumption | exact Bw.out (by assumption) | refine bw_alloc ?_ _ | refine bw_step ?_ (by assumption) | refine Below.alloc ?_ ?_ _ | refine Below.drew ?_ | refine below_drewN ?_ _ | refine Below.setCell ?_ ?_ _ | refine below_step ?_ (by assumption) ?_ | exact Nat.le_refl _) | omega | (simp; omega) | (simp; done))))).out | exact SlC.step sF6 (by (repeat' (first | (with_reducible first | exact Below.refl _ _ | assumption | exact Bw.out (by assumption) | refine bw_alloc ?_ _ | refine bw_step ?_ (by assumption) | refine Below.alloc ?_ ?_ _ | refine Below.drew ?_ | refine below_drewN ?_ _ | refine Below.setCell ?_ ?_ _ | refine below_step ?_ (by assumption) ?_ | exact Nat.le_refl _) | omega | (simp; omega) | (simp; done)))))⟩
  clear sF0 sF1 sF2 sF3 sF4 sF5 sF6
  refine hKz _ _ (fun _ => hS1) ?_
  clear hKz Kz
  refine AnyJ.takeD (i := 4) (d := some 10) (v := ?_) rfl (by kernel_rfl) (by kernel_rfl) (by kernel_rfl) (by kernel_rfl) (by kernel_rfl) (fun _ _ _ h => h) (Or.inl ⟨by kernel_rfl, ?_⟩) hS1 ?_
  rotate_left
  ·
   intro w' hS
   clear hS
   go_simp
   try with_reducible rfl
  refine AnyJ.takeD (i := 5) (d := some 11) (v := ?_) rfl (by kernel_rfl) (by kernel_rfl) (by kernel_rfl) (by kernel_rfl) (by kernel_rfl) (fun _ _ _ h => h) (Or.inl ⟨by kernel_rfl, ?_⟩) hS1 ?_
  rotate_left
  ·
   intro w' hS
   clear hS
   go_simp
   try with_reducible rfl
  refine AnyJ.done (by kernel_rfl) ?_ _
  clear hS1
  try simp only [Act.put, List.setIfInBounds_toArray, List.set_cons_zero, List.set_cons_succ]
  go_wp2_with fail
  have RP := R_o_1.set2 (.int .i64 (c)) (.int .i64 (d))
  have q0 := RP.cell 0 rfl
  have q1 := RP.cell 1 rfl
  refine bodyPost_ret (v := .agg #[.int .i64 (c), .int .i64 (d)]) (by simp [results, Try.results133, go_sem, q0, q1]) rfl ⟨rfl, by (repeat' (first | (with_reducible first | exact Below.refl _ _ | assumption | exact Bw.out (by assumption) | refine bw_alloc ?_ _ | refine bw_step ?_ (by assumption) | refine Below.alloc ?_ ?_ _ | refine Below.drew ?_ | refine below_drewN ?_ _ | refine Below.setCell ?_ ?_ _ | refine below_step ?_ (by assumption) ?_ | exact Nat.le_refl _) | omega | (simp; omega) | (simp; done)))⟩
set_option maxRecDepth 100000 in
set_option maxHeartbeats 1600000 in
theorem better_max (a b c d : Int) (B : Nat) (w : World) (hB : Row w B [.int .i64 (1)]) :
  Calls Try.prog 133 #[.agg #[.int .i64 a, .int .i64 b], .agg #[.int .i64 c, .int .i64 d], .pointer (some ⟨B, 0, none⟩)] w fun e w' => e = vE (ap2 9 a b c d) ∧ Below w.heap.size w w' := by
 have X0 : CellAt w B 0 (.int .i64 (1)) := hB.cell 0 rfl
 have lB := hB.lt
 have HC := cmp_any a b c d
 have hr := cmp_range a b c d
 obtain ⟨V, hV⟩ : ∃ V, cmpV a b c d = V := ⟨_, rfl⟩
 have ht : ap2 9 a b c d = if 0 < V then (a, b, 0) else (c, d, 0) := by rw [← hV]; rfl
 rw [hV] at HC hr
 rw [ht]
 clear hV ht hB
 have H := Lib.hid HC
 clear HC
 rcases hr with rfl | rfl | rfl
 ·
  rw [if_neg (by decide), vE_ok rfl]
  go_enter Try.func133, Try.ntmps133
  go_wp2_with fail
  refine AnyJ.beginP (fun w' : World => w'.cell? ⟨w.heap.size, 0, none⟩ = some (.int .i64 (a)) ∧ w'.cell? ⟨w.heap.size, 1, none⟩ = some (.int .i64 (b)) ∧ w'.cell? ⟨w.heap.size + 1, 0, none⟩ = some (.int .i64 (c)) ∧ w'.cell? ⟨w.heap.size + 1, 1, none⟩ = some (.int .i64 (d)) ∧ w'.cell? ⟨w.heap.size + 1 + 1, 0, none⟩ = some (.int .i64 (0)) ∧ w'.cell? ⟨w.heap.size + 1 + 1, 1, none⟩ = some (.int .i64 (0)) ∧ w'.cell? ⟨B, 0, none⟩ = some (.int .i64 (1))) (fun _ => true) (by kernel_rfl) ?_ (fun hS0 => ?_)
  ·
   exact (show ∀ (P S : World → Prop) (W : World), P W → (∀ w', P w' → S w') → S W from fun P S W h f => f W h) (fun w' : World => Row w' (w.heap.size) [.int .i64 (a), .int .i64 (b)] ∧ Row w' (w.heap.size + 1) [.int .i64 (c), .int .i64 (d)] ∧ Row w' (w.heap.size + 1 + 1) [.int .i64 (0), .int .i64 (0)] ∧ w'.cell? ⟨B, 0, none⟩ = some (.int .i64 (1))) (fun w' : World => w'.cell? ⟨w.heap.size, 0, none⟩ = some (.int .i64 (a)) ∧ w'.cell? ⟨w.heap.size, 1, none⟩ = some (.int .i64 (b)) ∧ w'.cell? ⟨w.heap.size + 1, 0, none⟩ = some (.int .i64 (c)) ∧ w'.cell? ⟨w.heap.size + 1, 1, none⟩ = some (.int .i64 (d)) ∧ w'.cell? ⟨w.heap.size + 1 + 1, 0, none⟩ = some (.int .i64 (0)) ∧ w'.cell? ⟨w.heap.size + 1 + 1, 1, none⟩ = some (.int .i64 (0)) ∧ w'.cell? ⟨B, 0, none⟩ = some (.int .i64 (1))) _ (⟨by (repeat' (first | (with_reducible assumption) | (with_reducible refine Row.new' _ _ _ (by first | rfl | (simp; done) | omega)) | (with_reducible first | refine Row.alloc ?_ _ | refine Row.drew ?_ | refine Row.step ?_ (by assumption) | refine Row.drewN ?_ _) | (with_reducible refine Row.set2' ?_ _ _; first | exact ⟨_, _, by assumption⟩ | exact ⟨_, _, Row.alloc (by assumption) _⟩) | (with_reducible refine Row.other ?_ (by first | omega | (simp; omega)) _))), by (repeat' (first | (with_reducible assumption) | (with_reducible refine Row.new' _ _ _ (by first | rfl | (simp; done) | omega)) | (with_reducible first | refine Row.alloc ?_ _ | refine Row.drew ?_ | refine Row.step ?_ (by assumption) | refine Row.drewN ?_ _) | (with_reducible refine Row.set2' ?_ _ _; first | exact ⟨_, _, by assumption⟩ | exact ⟨_, _, Row.alloc (by assumption) _⟩) | (with_reducible refine Row.other ?_ (by first | omega | (simp; omega)) _))), by (repeat' (first | (with_reducible assumption) | (with_reducible refine Row.new' _ _ _ (by first | rfl | (simp; done) | omega)) | (with_reducible first | refine Row.alloc ?_ _ | refine Row.drew ?_ | refine Row.step ?_ (by assumption) | refine Row.drewN ?_ _) | (with_reducible refine Row.set2' ?_ _ _; first | exact ⟨_, _, by assumption⟩ | exact ⟨_, _, Row.alloc (by assumption) _⟩) | (with_reducible refine Row.other ?_ (by first | omega | (simp; omega)) _))), CellAt.out (by (repeat' (first | (with_reducible assumption) | (with_reducible refine CellAt.drew ?_) | (with_reducible refine CellAt.drewN ?_ _) | (with_reducible refine CellAt.alloc ?_ _) | (with_reducible refine CellAt.step ?_ (by with_reducible assumption)))))⟩) (fun w' ⟨hP0, hP1, hP2, hF0⟩ => ⟨hP0.cell 0 rfl, hP0.cell 1 rfl, hP1.cell 0 rfl, hP1.cell 1 rfl, hP2.cell 0 rfl, hP2.cell 1 rfl, hF0⟩)
  refine AnyJ.takeD (i := 0) (d := some 6) (v := ?_) rfl (by kernel_rfl) (by kernel_rfl) (by kernel_rfl) (by kernel_rfl) (by kernel_rfl) (fun _ _ _ h => h) (Or.inl ⟨by kernel_rfl, ?_⟩) hS0 ?_
  rotate_left
  ·
   intro w' hS
   obtain ⟨sF0, sF1, sF2, sF3, sF4, sF5, sF6⟩ := hS
   go_simp
   try with_reducible rfl
  refine AnyJ.takeD (i := 1) (d := some 7) (v := ?_) rfl (by kernel_rfl) (by kernel_rfl) (by kernel_rfl) (by kernel_rfl) (by kernel_rfl) (fun _ _ _ h => h) (Or.inl ⟨by kernel_rfl, ?_⟩) hS0 ?_
  rotate_left
  ·
   intro w' hS
   obtain ⟨sF0, sF1, sF2, sF3, sF4, sF5, sF6⟩ := hS
   go_simp
   try with_reducible rfl
  refine AnyJ.takeD (i := 3) (d := some 9) (v := ?_) rfl (by kernel_rfl) (by kernel_rfl) (by kernel_rfl) (by kernel_rfl) (by kernel_rfl) (fun _ _ _ h => h) (Or.inl ⟨by kernel_rfl, ?_⟩) hS0 ?_
  rotate_left
  ·
   intro w' hS
   obtain ⟨sF0, sF1, sF2, sF3, sF4, sF5, sF6⟩ := hS
   go_simp
   try with_reducible rfl
  refine AnyJ.one (i := 2) (by kernel_rfl) rfl (fun Kz hKz => ?_)
  go_simp
  refine (H.out _).mono ?_
  rintro e w1 ⟨rfl, hb1⟩
  have R_x_1 : Row w1 (w.heap.size) [.int .i64 (a), .int .i64 (b)] := by (repeat' (first | (with_reducible assumption) | (with_reducible refine Row.new' _ _ _ (by first | rfl | (simp; done) | omega)) | (with_reducible first | refine Row.alloc ?_ _ | refine Row.drew ?_ | refine Row.step ?_ (by assumption) | refine Row.drewN ?_ _) | (with_reducible refine Row.set2' ?_ _ _; first | exact ⟨_, _, by assumption⟩ | exact ⟨_, _, Row.alloc (by assumption) _⟩) | (with_reducible refine Row.other ?_ (by first | omega | (simp; omega)) _)))
  have c_x_0_1 := R_x_1.cell 0 rfl
  have c_x_1_1 := R_x_1.cell 1 rfl
  have l_x_1 := R_x_1.lt
  have R_y_1 : Row w1 (w.heap.size + 1) [.int .i64 (c), .int .i64 (d)] := by (repeat' (first | (with_reducible assumption) | (with_reducible refine Row.new' _ _ _ (by first | rfl | (simp; done) | omega)) | (with_reducible first | refine Row.alloc ?_ _ | refine Row.drew ?_ | refine Row.step ?_ (by assumption) | refine Row.drewN ?_ _) | (with_reducible refine Row.set2' ?_ _ _; first | exact ⟨_, _, by assumption⟩ | exact ⟨_, _, Row.alloc (by assumption) _⟩) | (with_reducible refine Row.other ?_ (by first | omega | (simp; omega)) _)))
  have c_y_0_1 := R_y_1.cell 0 rfl
  have c_y_1_1 := R_y_1.cell 1 rfl
  have l_y_1 := R_y_1.lt
  have R_o_1 : Row w1 (w.heap.size + 1 + 1) [.int .i64 (0), .int .i64 (0)] := by (repeat' (first | (with_reducible assumption) | (with_reducible refine Row.new' _ _ _ (by first | rfl | (simp; done) | omega)) | (with_reducible first | refine Row.alloc ?_ _ | refine Row.drew ?_ | refine Row.step ?_ (by assumption) | refine Row.drewN ?_ _) | (with_reducible refine Row.set2' ?_ _ _; first | exact ⟨_, _, by assumption⟩ | exact ⟨_, _, Row.alloc (by assumption) _⟩) | (with_reducible refine Row.other ?_ (by first | omega | (simp; omega)) _)))
  have c_o_0_1 := R_o_1.cell 0 rfl
  have c_o_1_1 := R_o_1.cell 1 rfl
  have z_o_0_1 := R_o_1.frozen 0
  have z_o_1_1 := R_o_1.frozen 1
  have l_o_1 := R_o_1.lt
  have HB1 : Below w.heap.size w w1 := by (repeat' (first | (with_reducible first | exact Below.refl _ _ | assumption | exact Bw.out (by assumption) | refine bw_alloc ?_ _ | refine bw_step ?_ (by assumption) | refine Below.alloc ?_ ?_ _ | refine Below.drew ?_ | refine below_drewN ?_ _ | refine Below.setCell ?_ ?_ _ | refine below_step ?_ (by assumption) ?_ | exact Nat.le_refl _) | omega | (simp; omega) | (simp; done)))
  have hz1 := HB1.size
  obtain ⟨sF0, sF1, sF2, sF3, sF4, sF5, sF6⟩ := hS0
  have hS1 : (fun w' : World => w'.cell? ⟨w.heap.size, 0, none⟩ = some (.int .i64 (a)) ∧ w'.cell? ⟨w.heap.size, 1, none⟩ = some (.int .i64 (b)) ∧ w'.cell? ⟨w.heap.size + 1, 0, none⟩ = some (.int .i64 (c)) ∧ w'.cell? ⟨w.heap.size + 1, 1, none⟩ = some (.int .i64 (d)) ∧ w'.cell? ⟨w.heap.size + 1 + 1, 0, none⟩ = some (.int .i64 (0)) ∧ w'.cell? ⟨w.heap.size + 1 + 1, 1, none⟩ = some (.int .i64 (0)) ∧ w'.cell? ⟨B, 0, none⟩ = some (.int .i64 (1))) w1 := ⟨c_x_0_1, c_x_1_1, c_y_0_1, c_y_1_1, c_o_0_1, c_o_1_1, (by first | exact (CellAt.step sF6 (by (repeat' (first | (with_reducible first | exact Below.refl _ _ | assumption | exact Bw.out (by assumption) | refine bw_alloc ?_ _ | refine bw_step ?_ (by assumption) | refine Below.alloc ?_ ?_ _ | refine Below.drew ?_ | refine below_drewN ?_ _ | refine Below.setCell ?_ ?_ _ | refine below_step ?_ (by assumption) ?_ | exact Nat.le_refl _) | omega | (simp; omega) | (simp; done))))).out | exact SlC.step sF6 (by (repeat' (first | (with_reducible first | exact Below.refl _ _ | assumption | exact Bw.out (by assumption) | refine bw_alloc ?_ _ | refine bw_step ?_ (by assumption) | refine Below.alloc ?_ ?_ _ | refine Below.drew ?_ | refine below_drewN ?_ _ | refine Below.setCell ?_ ?_ _ | refine below_step ?_ (by assumption) ?_ | exact Nat.le_refl _) | omega | (simp; omega) | (simp; done)))))⟩
  clear sF0 sF1 sF2 sF3 sF4 sF5 sF6
  refine hKz _ _ (fun _ => hS1) ?_
  clear hKz Kz
  refine AnyJ.takeD (i := 4) (d := some 10) (v := ?_) rfl (by kernel_rfl) (by kernel_rfl) (by kernel_rfl) (by kernel_rfl) (by kernel_rfl) (fun _ _ _ h => h) (Or.inl ⟨by kernel_rfl, ?_⟩) hS1 ?_
  rotate_left
  ·
   intro w' hS
   clear hS
   go_simp
   try with_reducible rfl
  refine AnyJ.takeD (i := 5) (d := some 11) (v := ?_) rfl (by kernel_rfl) (by kernel_rfl) (by kernel_rfl) (by kernel_rfl) (by kernel_rfl) (fun _ _ _ h => h) (Or.inl ⟨by kernel_rfl, ?_⟩) hS1 ?_
  rotate_left
  ·
   intro w' hS
   clear hS
   go_simp
   try with_reducible rfl
  refine AnyJ.done (by kernel_rfl) ?_ _
  clear hS1
  try simp only [Act.put, List.setIfInBounds_toArray, List.set_cons_zero, List.set_cons_succ]
  go_wp2_with fail
  have RP := R_o_1.set2 (.int .i64 (c)) (.int .i64 (d))
  have q0 := RP.cell 0 rfl
  have q1 := RP.cell 1 rfl
  refine bodyPost_ret (v := .agg #[.int .i64 (c), .int .i64 (d)]) (by simp [results, Try.results133, go_sem, q0, q1]) rfl ⟨rfl, by (repeat' (first | (with_reducible first | exact Below.refl _ _ | assumption | exact Bw.out (by assumption) | refine bw_alloc ?_ _ | refine bw_step ?_ (by assumption) | refine Below.alloc ?_ ?_ _ | refine Below.drew ?_ | refine below_drewN ?_ _ | refine Below.setCell ?_ ?_ _ | refine below_step ?_ (by assumption) ?_ | exact Nat.le_refl _) | omega | (simp; omega) | (simp; done)))⟩
 ·
  rw [if_neg (by decide), vE_ok rfl]
  go_enter Try.func133, Try.ntmps133
  go_wp2_with fail
  refine AnyJ.beginP (fun w' : World => w'.cell? ⟨w.heap.size, 0, none⟩ = some (.int .i64 (a)) ∧ w'.cell? ⟨w.heap.size, 1, none⟩ = some (.int .i64 (b)) ∧ w'.cell? ⟨w.heap.size + 1, 0, none⟩ = some (.int .i64 (c)) ∧ w'.cell? ⟨w.heap.size + 1, 1, none⟩ = some (.int .i64 (d)) ∧ w'.cell? ⟨w.heap.size + 1 + 1, 0, none⟩ = some (.int .i64 (0)) ∧ w'.cell? ⟨w.heap.size + 1 + 1, 1, none⟩ = some (.int .i64 (0)) ∧ w'.cell? ⟨B, 0, none⟩ = some (.int .i64 (1))) (fun _ => true) (by kernel_rfl) ?_ (fun hS0 => ?_)
  ·
   exact (show ∀ (P S : World → Prop) (W : World), P W → (∀ w', P w' → S w') → S W from fun P S W h f => f W h) (fun w' : World => Row w' (w.heap.size) [.int .i64 (a), .int .i64 (b)] ∧ Row w' (w.heap.size + 1) [.int .i64 (c), .int .i64 (d)] ∧ Row w' (w.heap.size + 1 + 1) [.int .i64 (0), .int .i64 (0)] ∧ w'.cell? ⟨B, 0, none⟩ = some (.int .i64 (1))) (fun w' : World => w'.cell? ⟨w.heap.size, 0, none⟩ = some (.int .i64 (a)) ∧ w'.cell? ⟨w.heap.size, 1, none⟩ = some (.int .i64 (b)) ∧ w'.cell? ⟨w.heap.size + 1, 0, none⟩ = some (.int .i64 (c)) ∧ w'.cell? ⟨w.heap.size + 1, 1, none⟩ = some (.int .i64 (d)) ∧ w'.cell? ⟨w.heap.size + 1 + 1, 0, none⟩ = some (.int .i64 (0)) ∧ w'.cell? ⟨w.heap.size + 1 + 1, 1, none⟩ = some (.int .i64 (0)) ∧ w'.cell? ⟨B, 0, none⟩ = some (.int .i64 (1))) _ (⟨by (repeat' (first | (with_reducible assumption) | (with_reducible refine Row.new' _ _ _ (by first | rfl | (simp; done) | omega)) | (with_reducible first | refine Row.alloc ?_ _ | refine Row.drew ?_ | refine Row.step ?_ (by assumption) | refine Row.drewN ?_ _) | (with_reducible refine Row.set2' ?_ _ _; first | exact ⟨_, _, by assumption⟩ | exact ⟨_, _, Row.alloc (by assumption) _⟩) | (with_reducible refine Row.other ?_ (by first | omega | (simp; omega)) _))), by (repeat' (first | (with_reducible assumption) | (with_reducible refine Row.new' _ _ _ (by first | rfl | (simp; done) | omega)) | (with_reducible first | refine Row.alloc ?_ _ | refine Row.drew ?_ | refine Row.step ?_ (by assumption) | refine Row.drewN ?_ _) | (with_reducible refine Row.set2' ?_ _ _; first | exact ⟨_, _, by assumption⟩ | exact ⟨_, _, Row.alloc (by assumption) _⟩) | (with_reducible refine Row.other ?_ (by first | omega | (simp; omega)) _))), by (repeat' (first | (with_reducible assumption) | (with_reducible refine Row.new' _ _ _ (by first | rfl | (simp; done) | omega)) | (with_reducible first | refine Row.alloc ?_ _ | refine Row.drew ?_ | refine Row.step ?_ (by assumption) | refine Row.drewN ?_ _) | (with_reducible refine Row.set2' ?_ _ _; first | exact ⟨_, _, by assumption⟩ | exact ⟨_, _, Row.alloc (by assumption) _⟩) | (with_reducible refine Row.other ?_ (by first | omega | (simp; omega)) _))), CellAt.out (by (repeat' (first | (with_reducible assumption) | (with_reducible refine CellAt.drew ?_) | (with_reducible refine CellAt.drewN ?_ _) | (with_reducible refine CellAt.alloc ?_ _) | (with_reducible refine CellAt.step ?_ (by with_reducible assumption)))))⟩) (fun w' ⟨hP0, hP1, hP2, hF0⟩ => ⟨hP0.cell 0 rfl, hP0.cell 1 rfl, hP1.cell 0 rfl, hP1.cell 1 rfl, hP2.cell 0 rfl, hP2.cell 1 rfl, hF0⟩)
  refine AnyJ.takeD (i := 0) (d := some 6) (v := ?_) rfl (by kernel_rfl) (by kernel_rfl) (by kernel_rfl) (by kernel_rfl) (by kernel_rfl) (fun _ _ _ h => h) (Or.inl ⟨by kernel_rfl, ?_⟩) hS0 ?_
  rotate_left
  ·
   intro w' hS
   obtain ⟨sF0, sF1, sF2, sF3, sF4, sF5, sF6⟩ := hS
   go_simp
   try with_reducible rfl
  refine AnyJ.takeD (i := 1) (d := some 7) (v := ?_) rfl (by kernel_rfl) (by kernel_rfl) (by kernel_rfl) (by kernel_rfl) (by kernel_rfl) (fun _ _ _ h => h) (Or.inl ⟨by kernel_rfl, ?_⟩) hS0 ?_
  rotate_left
  ·
   intro w' hS
   obtain ⟨sF0, sF1, sF2, sF3, sF4, sF5, sF6⟩ := hS
   go_simp
   try with_reducible rfl
  refine AnyJ.takeD (i := 3) (d := some 9) (v := ?_) rfl (by kernel_rfl) (by kernel_rfl) (by kernel_rfl) (by kernel_rfl) (by kernel_rfl) (fun _ _ _ h => h) (Or.inl ⟨by kernel_rfl, ?_⟩) hS0 ?_
  rotate_left
  ·
   intro w' hS
   obtain ⟨sF0, sF1, sF2, sF3, sF4, sF5, sF6⟩ := hS
   go_simp
   try with_reducible rfl
  refine AnyJ.one (i := 2) (by kernel_rfl) rfl (fun Kz hKz => ?_)
  go_simp
  refine (H.out _).mono ?_
  rintro e w1 ⟨rfl, hb1⟩
  have R_x_1 : Row w1 (w.heap.size) [.int .i64 (a), .int .i64 (b)] := by (repeat' (first | (with_reducible assumption) | (with_reducible refine Row.new' _ _ _ (by first | rfl | (simp; done) | omega)) | (with_reducible first | refine Row.alloc ?_ _ | refine Row.drew ?_ | refine Row.step ?_ (by assumption) | refine Row.drewN ?_ _) | (with_reducible refine Row.set2' ?_ _ _; first | exact ⟨_, _, by assumption⟩ | exact ⟨_, _, Row.alloc (by assumption) _⟩) | (with_reducible refine Row.other ?_ (by first | omega | (simp; omega)) _)))
  have c_x_0_1 := R_x_1.cell 0 rfl
  have c_x_1_1 := R_x_1.cell 1 rfl
  have l_x_1 := R_x_1.lt
  have R_y_1 : Row w1 (w.heap.size + 1) [.int .i64 (c), .int .i64 (d)] := by (repeat' (first | (with_reducible assumption) | (with_reducible refine Row.new' _ _ _ (by first | rfl | (simp; done) | omega)) | (with_reducible first | refine Row.alloc ?_ _ | refine Row.drew ?_ | refine Row.step ?_ (by assumption) | refine Row.drewN ?_ _) | (with_reducible refine Row.set2' ?_ _ _; first | exact ⟨_, _, by assumption⟩ | exact ⟨_, _, Row.alloc (by assumption) _⟩) | (with_reducible refine Row.other ?_ (by first | omega | (simp; omega)) _)))
  have c_y_0_1 := R_y_1.cell 0 rfl
  have c_y_1_1 := R_y_1.cell 1 rfl
  have l_y_1 := R_y_1.lt
  have R_o_1 : Row w1 (w.heap.size + 1 + 1) [.int .i64 (0), .int .i64 (0)] := by (repeat' (first | (with_reducible assumption) | (with_reducible refine Row.new' _ _ _ (by first | rfl | (simp; done) | omega)) | (with_reducible first | refine Row.alloc ?_ _ | refine Row.drew ?_ | refine Row.step ?_ (by assumption) | refine Row.drewN ?_ _) | (with_reducible refine Row.set2' ?_ _ _; first | exact ⟨_, _, by assumption⟩ | exact ⟨_, _, Row.alloc (by assumption) _⟩) | (with_reducible refine Row.other ?_ (by first | omega | (simp; omega)) _)))
  have c_o_0_1 := R_o_1.cell 0 rfl
  have c_o_1_1 := R_o_1.cell 1 rfl
  have z_o_0_1 := R_o_1.frozen 0
  have z_o_1_1 := R_o_1.frozen 1
  have l_o_1 := R_o_1.lt
  have HB1 : Below w.heap.size w w1 := by (repeat' (first | (with_reducible first | exact Below.refl _ _ | assumption | exact Bw.out (by assumption) | refine bw_alloc ?_ _ | refine bw_step ?_ (by assumption) | refine Below.alloc ?_ ?_ _ | refine Below.drew ?_ | refine below_drewN ?_ _ | refine Below.setCell ?_ ?_ _ | refine below_step ?_ (by assumption) ?_ | exact Nat.le_refl _) | omega | (simp; omega) | (simp; done)))
  have hz1 := HB1.size
  obtain ⟨sF0, sF1, sF2, sF3, sF4, sF5, sF6⟩ := hS0
  have hS1 : (fun w' : World => w'.cell? ⟨w.heap.size, 0, none⟩ = some (.int .i64 (a)) ∧ w'.cell? ⟨w.heap.size, 1, none⟩ = some (.int .i64 (b)) ∧ w'.cell? ⟨w.heap.size + 1, 0, none⟩ = some (.int .i64 (c)) ∧ w'.cell? ⟨w.heap.size + 1, 1, none⟩ = some (.int .i64 (d)) ∧ w'.cell? ⟨w.heap.size + 1 + 1, 0, none⟩ = some (.int .i64 (0)) ∧ w'.cell? ⟨w.heap.size + 1 + 1, 1, none⟩ = some (.int .i64 (0)) ∧ w'.cell? ⟨B, 0, none⟩ = some (.int .i64 (1))) w1 := ⟨c_x_0_1, c_x_1_1, c_y_0_1, c_y_1_1, c_o_0_1, c_o_1_1, (by first | exact (CellAt.step sF6 (by (repeat' (first | (with_reducible first | exact Below.refl _ _ | assumption | exact Bw.out (by assumption) | refine bw_alloc ?_ _ | refine bw_step ?_ (by assumption) | refine Below.alloc ?_ ?_ _ | refine Below.drew ?_ | refine below_drewN ?_ _ | refine Below.setCell ?_ ?_ _ | refine below_step ?_ (by assumption) ?_ | exact Nat.le_refl _) | omega | (simp; omega) | (simp; done))))).out | exact SlC.step sF6 (by (repeat' (first | (with_reducible first | exact Below.refl _ _ | assumption | exact Bw.out (by assumption) | refine bw_alloc ?_ _ | refine bw_step ?_ (by assumption) | refine Below.alloc ?_ ?_ _ | refine Below.drew ?_ | refine below_drewN ?_ _ | refine Below.setCell ?_ ?_ _ | refine below_step ?_ (by assumption) ?_ | exact Nat.le_refl _) | omega | (simp; omega) | (simp; done)))))⟩
  clear sF0 sF1 sF2 sF3 sF4 sF5 sF6
  refine hKz _ _ (fun _ => hS1) ?_
  clear hKz Kz
  refine AnyJ.takeD (i := 4) (d := some 10) (v := ?_) rfl (by kernel_rfl) (by kernel_rfl) (by kernel_rfl) (by kernel_rfl) (by kernel_rfl) (fun _ _ _ h => h) (Or.inl ⟨by kernel_rfl, ?_⟩) hS1 ?_
  rotate_left
  ·
   intro w' hS
   clear hS
   go_simp
   try with_reducible rfl
  refine AnyJ.takeD (i := 5) (d := some 11) (v := ?_) rfl (by kernel_rfl) (by kernel_rfl) (by kernel_rfl) (by kernel_rfl) (by kernel_rfl) (fun _ _ _ h => h) (Or.inl ⟨by kernel_rfl, ?_⟩) hS1 ?_
  rotate_left
  ·
   intro w' hS
   clear hS
   go_simp
   try with_reducible rfl
  refine AnyJ.done (by kernel_rfl) ?_ _
  clear hS1
  try simp only [Act.put, List.setIfInBounds_toArray, List.set_cons_zero, List.set_cons_succ]
  go_wp2_with fail
  have RP := R_o_1.set2 (.int .i64 (c)) (.int .i64 (d))
  have q0 := RP.cell 0 rfl
  have q1 := RP.cell 1 rfl
  refine bodyPost_ret (v := .agg #[.int .i64 (c), .int .i64 (d)]) (by simp [results, Try.results133, go_sem, q0, q1]) rfl ⟨rfl, by (repeat' (first | (with_reducible first | exact Below.refl _ _ | assumption | exact Bw.out (by assumption) | refine bw_alloc ?_ _ | refine bw_step ?_ (by assumption) | refine Below.alloc ?_ ?_ _ | refine Below.drew ?_ | refine below_drewN ?_ _ | refine Below.setCell ?_ ?_ _ | refine below_step ?_ (by assumption) ?_ | exact Nat.le_refl _) | omega | (simp; omega) | (simp; done)))⟩
 ·
  rw [if_pos (by decide), vE_ok rfl]
  go_enter Try.func133, Try.ntmps133
  go_wp2_with fail
  refine AnyJ.beginP (fun w' : World => w'.cell? ⟨w.heap.size, 0, none⟩ = some (.int .i64 (a)) ∧ w'.cell? ⟨w.heap.size, 1, none⟩ = some (.int .i64 (b)) ∧ w'.cell? ⟨w.heap.size + 1, 0, none⟩ = some (.int .i64 (c)) ∧ w'.cell? ⟨w.heap.size + 1, 1, none⟩ = some (.int .i64 (d)) ∧ w'.cell? ⟨w.heap.size + 1 + 1, 0, none⟩ = some (.int .i64 (0)) ∧ w'.cell? ⟨w.heap.size + 1 + 1, 1, none⟩ = some (.int .i64 (0)) ∧ w'.cell? ⟨B, 0, none⟩ = some (.int .i64 (1))) (fun _ => true) (by kernel_rfl) ?_ (fun hS0 => ?_)
  ·
   exact (show ∀ (P S : World → Prop) (W : World), P W → (∀ w', P w' → S w') → S W from fun P S W h f => f W h) (fun w' : World => Row w' (w.heap.size) [.int .i64 (a), .int .i64 (b)] ∧ Row w' (w.heap.size + 1) [.int .i64 (c), .int .i64 (d)] ∧ Row w' (w.heap.size + 1 + 1) [.int .i64 (0), .int .i64 (0)] ∧ w'.cell? ⟨B, 0, none⟩ = some (.int .i64 (1))) (fun w' : World => w'.cell? ⟨w.heap.size, 0, none⟩ = some (.int .i64 (a)) ∧ w'.cell? ⟨w.heap.size, 1, none⟩ = some (.int .i64 (b)) ∧ w'.cell? ⟨w.heap.size + 1, 0, none⟩ = some (.int .i64 (c)) ∧ w'.cell? ⟨w.heap.size + 1, 1, none⟩ = some (.int .i64 (d)) ∧ w'.cell? ⟨w.heap.size + 1 + 1, 0, none⟩ = some (.int .i64 (0)) ∧ w'.cell? ⟨w.heap.size + 1 + 1, 1, none⟩ = some (.int .i64 (0)) ∧ w'.cell? ⟨B, 0, none⟩ = some (.int .i64 (1))) _ (⟨by (repeat' (first | (with_reducible assumption) | (with_reducible refine Row.new' _ _ _ (by first | rfl | (simp; done) | omega)) | (with_reducible first | refine Row.alloc ?_ _ | refine Row.drew ?_ | refine Row.step ?_ (by assumption) | refine Row.drewN ?_ _) | (with_reducible refine Row.set2' ?_ _ _; first | exact ⟨_, _, by assumption⟩ | exact ⟨_, _, Row.alloc (by assumption) _⟩) | (with_reducible refine Row.other ?_ (by first | omega | (simp; omega)) _))), by (repeat' (first | (with_reducible assumption) | (with_reducible refine Row.new' _ _ _ (by first | rfl | (simp; done) | omega)) | (with_reducible first | refine Row.alloc ?_ _ | refine Row.drew ?_ | refine Row.step ?_ (by assumption) | refine Row.drewN ?_ _) | (with_reducible refine Row.set2' ?_ _ _; first | exact ⟨_, _, by assumption⟩ | exact ⟨_, _, Row.alloc (by assumption) _⟩) | (with_reducible refine Row.other ?_ (by first | omega | (simp; omega)) _))), by (repeat' (first | (with_reducible assumption) | (with_reducible refine Row.new' _ _ _ (by first | rfl | (simp; done) | omega)) | (with_reducible first | refine Row.alloc ?_ _ | refine Row.drew ?_ | refine Row.step ?_ (by assumption) | refine Row.drewN ?_ _) | (with_reducible refine Row.set2' ?_ _ _; first | exact ⟨_, _, by assumption⟩ | exact ⟨_, _, Row.alloc (by assumption) _⟩) | (with_reducible refine Row.other ?_ (by first | omega | (simp; omega)) _))), CellAt.out (by (repeat' (first | (with_reducible assumption) | (with_reducible refine CellAt.drew ?_) | (with_reducible refine CellAt.drewN ?_ _) | (with_reducible refine CellAt.alloc ?_ _) | (with_reducible refine CellAt.step ?_ (by with_reducible assumption)))))⟩) (fun w' ⟨hP0, hP1, hP2, hF0⟩ => ⟨hP0.cell 0 rfl, hP0.cell 1 rfl, hP1.cell 0 rfl, hP1.cell 1 rfl, hP2.cell 0 rfl, hP2.cell 1 rfl, hF0⟩)
  refine AnyJ.takeD (i := 0) (d := some 6) (v := ?_) rfl (by kernel_rfl) (by kernel_rfl) (by kernel_rfl) (by kernel_rfl) (by kernel_rfl) (fun _ _ _ h => h) (Or.inl ⟨by kernel_rfl, ?_⟩) hS0 ?_
  rotate_left
  ·
   intro w' hS
   obtain ⟨sF0, sF1, sF2, sF3, sF4, sF5, sF6⟩ := hS
   go_simp
   try with_reducible rfl
  refine AnyJ.takeD (i := 1) (d := some 7) (v := ?_) rfl (by kernel_rfl) (by kernel_rfl) (by kernel_rfl) (by kernel_rfl) (by kernel_rfl) (fun _ _ _ h => h) (Or.inl ⟨by kernel_rfl, ?_⟩) hS0 ?_
  rotate_left
  ·
   intro w' hS
   obtain ⟨sF0, sF1, sF2, sF3, sF4, sF5, sF6⟩ := hS
   go_simp
   try with_reducible rfl
  refine AnyJ.takeD (i := 3) (d := some 9) (v := ?_) rfl (by kernel_rfl) (by kernel_rfl) (by kernel_rfl) (by kernel_rfl) (by kernel_rfl) (fun _ _ _ h => h) (Or.inl ⟨by kernel_rfl, ?_⟩) hS0 ?_
  rotate_left
  ·
   intro w' hS
   obtain ⟨sF0, sF1, sF2, sF3, sF4, sF5, sF6⟩ := hS
   go_simp
   try with_reducible rfl
  refine AnyJ.one (i := 2) (by kernel_rfl) rfl (fun Kz hKz => ?_)
  go_simp
  refine (H.out _).mono ?_
  rintro e w1 ⟨rfl, hb1⟩
  have R_x_1 : Row w1 (w.heap.size) [.int .i64 (a), .int .i64 (b)] := by (repeat' (first | (with_reducible assumption) | (with_reducible refine Row.new' _ _ _ (by first | rfl | (simp; done) | omega)) | (with_reducible first | refine Row.alloc ?_ _ | refine Row.drew ?_ | refine Row.step ?_ (by assumption) | refine Row.drewN ?_ _) | (with_reducible refine Row.set2' ?_ _ _; first | exact ⟨_, _, by assumption⟩ | exact ⟨_, _, Row.alloc (by assumption) _⟩) | (with_reducible refine Row.other ?_ (by first | omega | (simp; omega)) _)))
  have c_x_0_1 := R_x_1.cell 0 rfl
  have c_x_1_1 := R_x_1.cell 1 rfl
  have l_x_1 := R_x_1.lt
  have R_y_1 : Row w1 (w.heap.size + 1) [.int .i64 (c), .int .i64 (d)] := by (repeat' (first | (with_reducible assumption) | (with_reducible refine Row.new' _ _ _ (by first | rfl | (simp; done) | omega)) | (with_reducible first | refine Row.alloc ?_ _ | refine Row.drew ?_ | refine Row.step ?_ (by assumption) | refine Row.drewN ?_ _) | (with_reducible refine Row.set2' ?_ _ _; first | exact ⟨_, _, by assumption⟩ | exact ⟨_, _, Row.alloc (by assumption) _⟩) | (with_reducible refine Row.other ?_ (by first | omega | (simp; omega)) _)))
  have c_y_0_1 := R_y_1.cell 0 rfl
  have c_y_1_1 := R_y_1.cell 1 rfl
  have l_y_1 := R_y_1.lt
  have R_o_1 : Row w1 (w.heap.size + 1 + 1) [.int .i64 (0), .int .i64 (0)] := by (repeat' (first | (with_reducible assumption) | (with_reducible refine Row.new' _ _ _ (by first | rfl | (simp; done) | omega)) | (with_reducible first | refine Row.alloc ?_ _ | refine Row.drew ?_ | refine Row.step ?_ (by assumption) | refine Row.drewN ?_ _) | (with_reducible refine Row.set2' ?_ _ _; first | exact ⟨_, _, by assumption⟩ | exact ⟨_, _, Row.alloc (by assumption) _⟩) | (with_reducible refine Row.other ?_ (by first | omega | (simp; omega)) _)))
  have c_o_0_1 := R_o_1.cell 0 rfl
  have c_o_1_1 := R_o_1.cell 1 rfl
  have z_o_0_1 := R_o_1.frozen 0
  have z_o_1_1 := R_o_1.frozen 1
  have l_o_1 := R_o_1.lt
  have HB1 : Below w.heap.size w w1 := by (repeat' (first | (with_reducible first | exact Below.refl _ _ | assumption | exact Bw.out (by assumption) | refine bw_alloc ?_ _ | refine bw_step ?_ (by assumption) | refine Below.alloc ?_ ?_ _ | refine Below.drew ?_ | refine below_drewN ?_ _ | refine Below.setCell ?_ ?_ _ | refine below_step ?_ (by assumption) ?_ | exact Nat.le_refl _) | omega | (simp; omega) | (simp; done)))
  have hz1 := HB1.size
  obtain ⟨sF0, sF1, sF2, sF3, sF4, sF5, sF6⟩ := hS0
  have hS1 : (fun w' : World => w'.cell? ⟨w.heap.size, 0, none⟩ = some (.int .i64 (a)) ∧ w'.cell? ⟨w.heap.size, 1, none⟩ = some (.int .i64 (b)) ∧ w'.cell? ⟨w.heap.size + 1, 0, none⟩ = some (.int .i64 (c)) ∧ w'.cell? ⟨w.heap.size + 1, 1, none⟩ = some (.int .i64 (d)) ∧ w'.cell? ⟨w.heap.size + 1 + 1, 0, none⟩ = some (.int .i64 (0)) ∧ w'.cell? ⟨w.heap.size + 1 + 1, 1, none⟩ = some (.int .i64 (0)) ∧ w'.cell? ⟨B, 0, none⟩ = some (.int .i64 (1))) w1 := ⟨c_x_0_1, c_x_1_1, c_y_0_1, c_y_1_1, c_o_0_1, c_o_1_1, (by first | exact (CellAt.step sF6 (by (repeat' (first | (with_reducible first | exact Below.refl _ _ | assumption | exact Bw.out (by assumption) | refine bw_alloc ?_ _ | refine bw_step ?_ (by assumption) | refine Below.alloc ?_ ?_ _ | refine Below.drew ?_ | refine below_drewN ?_ _ | refine Below.setCell ?_ ?_ _ | refine below_step ?_ (by assumption) ?_ | exact Nat.le_refl _) | omega | (simp; omega) | (simp; done))))).out | exact SlC.step sF6 (by (repeat' (first | (with_reducible first | exact Below.refl _ _ | assumption | exact Bw.out (by assumption) | refine bw_alloc ?_ _ | refine bw_step ?_ (by assumption) | refine Below.alloc ?_ ?_ _ | refine Below.drew ?_ | refine below_drewN ?_ _ | refine Below.setCell ?_ ?_ _ | refine below_step ?_ (by assumption) ?_ | exact Nat.le_refl _) | omega | (simp; omega) | (simp; done)))))⟩
  clear sF0 sF1 sF2 sF3 sF4 sF5 sF6
  refine hKz _ _ (fun _ => hS1) ?_
  clear hKz Kz
  refine AnyJ.takeD (i := 4) (d := some 10) (v := ?_) rfl (by kernel_rfl) (by kernel_rfl) (by kernel_rfl) (by kernel_rfl) (by kernel_rfl) (fun _ _ _ h => h) (Or.inl ⟨by kernel_rfl, ?_⟩) hS1 ?_
  rotate_left
  ·
   intro w' hS
   clear hS
   go_simp
   try with_reducible rfl
  refine AnyJ.takeD (i := 5) (d := some 11) (v := ?_) rfl (by kernel_rfl) (by kernel_rfl) (by kernel_rfl) (by kernel_rfl) (by kernel_rfl) (fun _ _ _ h => h) (Or.inl ⟨by kernel_rfl, ?_⟩) hS1 ?_
  rotate_left
  ·
   intro w' hS
   clear hS
   go_simp
   try with_reducible rfl
  refine AnyJ.done (by kernel_rfl) ?_ _
  clear hS1
  try simp only [Act.put, List.setIfInBounds_toArray, List.set_cons_zero, List.set_cons_succ]
  go_wp2_with fail
  have RP := R_o_1.set2 (.int .i64 (a)) (.int .i64 (b))
  have q0 := RP.cell 0 rfl
  have q1 := RP.cell 1 rfl
  refine bodyPost_ret (v := .agg #[.int .i64 (a), .int .i64 (b)]) (by simp [results, Try.results133, go_sem, q0, q1]) rfl ⟨rfl, by (repeat' (first | (with_reducible first | exact Below.refl _ _ | assumption | exact Bw.out (by assumption) | refine bw_alloc ?_ _ | refine bw_step ?_ (by assumption) | refine Below.alloc ?_ ?_ _ | refine Below.drew ?_ | refine below_drewN ?_ _ | refine Below.setCell ?_ ?_ _ | refine below_step ?_ (by assumption) ?_ | exact Nat.le_refl _) | omega | (simp; omega) | (simp; done)))⟩
end Go.Proofs.Ytcmodmchnokmgaa
