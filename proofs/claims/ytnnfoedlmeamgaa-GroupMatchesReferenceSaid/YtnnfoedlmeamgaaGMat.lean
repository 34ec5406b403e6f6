/-
  GroupMatchesReference: for any block, days, nights and span, all functions return what the reference implementation returns.
  No condition: for every input.
-/
import Derived.Test.YtnnfoedlmeamgaaGrpY
import Derived.Test.YtnnfoedlmeamgaaGrpV
import Derived.Test.YtnnfoedlmeamgaaGrpW
import Derived.Deep.DeepCutAuto
namespace Go.Proofs.Ytnnfoedlmeamgaa
set_option linter.unusedSimpArgs false
set_option linter.unusedVariables false
open Go.ChangeShapes Go.WideShapes Go.ChangeAt Go.RowKit

set_option maxRecDepth 100000 in
set_option maxHeartbeats 12800000 in
theorem gmat_walk (B : Blk) (ca : Option Addr) (cn cc : Nat) (pa : Option Addr) (pm pc : Nat) (day n s0 s1 : Int) (_ : BlkWf B) (_ : (Lit.int .i64 day).wf = true) (_ : (Lit.int .i64 n).wf = true) (ws0 : (Lit.int .i64 s0).wf = true) (ws1 : (Lit.int .i64 s1).wf = true) (w : World) (K : BlkIn w B ca cn cc pa pm pc) :
    Calls Try.prog 3 #[.agg #[.int .i64 B.id, .int .i64 B.kind, .int .i64 B.rooms, .int .i64 B.fr, .int .i64 B.un, .slice ca cn cc, .int .i64 B.pn, .int .i64 B.pd, .int .i64 B.fee, .slice pa pm pc], .int .i64 day, .int .i64 n, .agg #[.int .i64 s0, .int .i64 s1]] w fun e w' => e = .returned (.bool true) ∧ Below w.heap.size w w' := by
  obtain ⟨fb, hf⟩ : ∃ fb, (decide (cn ≤ 40) && decide (pm ≤ 400)) = fb := ⟨_, rfl⟩
  have HF := Lib.hid hf
  have HWS := Lib.hid (And.intro ws0 ws1)
  clear hf ws0 ws1
  cases fb with
  | false =>
    go_enter Try.func3, Try.ntmps3
    go_wp2_with fail
    refine (head_any _).mono ?_
    rintro e w1 ⟨rfl, hb1⟩
    have R_b_1 : Row w1 (w.heap.size) [.int .i64 B.id, .int .i64 B.kind, .int .i64 B.rooms, .int .i64 B.fr, .int .i64 B.un, .slice ca cn cc, .int .i64 B.pn, .int .i64 B.pd, .int .i64 B.fee, .slice pa pm pc] := by (repeat' (first | (with_reducible assumption) | (with_reducible refine Row.new' _ _ _ (by first | rfl | (simp; done) | omega)) | (with_reducible refine Row.alloc ?_ _) | (with_reducible refine Row.drew ?_) | (with_reducible refine Row.drewN ?_ _) | (with_reducible refine Row.step ?_ (by with_reducible assumption)) | (with_reducible refine Row.set2' ?_ _ _; first | exact ⟨_, _, by with_reducible assumption⟩ | exact ⟨_, _, Row.alloc (by with_reducible assumption) _⟩ | exact ⟨_, _, Row.alloc (Row.alloc (by with_reducible assumption) _) _⟩) | (with_reducible refine Row.other ?_ (by first | omega | (simp; done) | (simp; omega)) _)))
    have c_b_0_1 := R_b_1.cell 0 rfl
    have c_b_1_1 := R_b_1.cell 1 rfl
    have c_b_2_1 := R_b_1.cell 2 rfl
    have c_b_3_1 := R_b_1.cell 3 rfl
    have c_b_4_1 := R_b_1.cell 4 rfl
    have c_b_5_1 := R_b_1.cell 5 rfl
    have c_b_6_1 := R_b_1.cell 6 rfl
    have c_b_7_1 := R_b_1.cell 7 rfl
    have c_b_8_1 := R_b_1.cell 8 rfl
    have c_b_9_1 := R_b_1.cell 9 rfl
    have l_b_1 := R_b_1.lt
    have R_s_1 : Row w1 (w.heap.size + 1) [.int .i64 (s0), .int .i64 (s1)] := by (repeat' (first | (with_reducible assumption) | (with_reducible refine Row.new' _ _ _ (by first | rfl | (simp; done) | omega)) | (with_reducible refine Row.alloc ?_ _) | (with_reducible refine Row.drew ?_) | (with_reducible refine Row.drewN ?_ _) | (with_reducible refine Row.step ?_ (by with_reducible assumption)) | (with_reducible refine Row.set2' ?_ _ _; first | exact ⟨_, _, by with_reducible assumption⟩ | exact ⟨_, _, Row.alloc (by with_reducible assumption) _⟩ | exact ⟨_, _, Row.alloc (Row.alloc (by with_reducible assumption) _) _⟩) | (with_reducible refine Row.other ?_ (by first | omega | (simp; done) | (simp; omega)) _)))
    have c_s_0_1 := R_s_1.cell 0 rfl
    have c_s_1_1 := R_s_1.cell 1 rfl
    have l_s_1 := R_s_1.lt
    replace K := K.step (show Below w.heap.size w w1 by (repeat' (first | (with_reducible exact Below.refl _ _) | (with_reducible assumption) | (with_reducible exact Bw.out (by with_reducible assumption)) | (with_reducible refine bw_alloc ?_ _) | (with_reducible refine bw_step ?_ (by with_reducible assumption)) | (with_reducible refine Below.alloc ?_ ?_ _) | (with_reducible refine Below.drew ?_) | (with_reducible refine below_drewN ?_ _) | (with_reducible refine Below.setCell ?_ ?_ _) | (with_reducible refine below_step ?_ (by with_reducible assumption) ?_) | (with_reducible exact Nat.le_refl _) | omega | (simp; omega) | (simp; done))))
    have HB1 : Below w.heap.size w w1 := by (repeat' (first | (with_reducible exact Below.refl _ _) | (with_reducible assumption) | (with_reducible exact Bw.out (by with_reducible assumption)) | (with_reducible refine bw_alloc ?_ _) | (with_reducible refine bw_step ?_ (by with_reducible assumption)) | (with_reducible refine Below.alloc ?_ ?_ _) | (with_reducible refine Below.drew ?_) | (with_reducible refine below_drewN ?_ _) | (with_reducible refine Below.setCell ?_ ?_ _) | (with_reducible refine below_step ?_ (by with_reducible assumption) ?_) | (with_reducible exact Nat.le_refl _) | omega | (simp; omega) | (simp; done)))
    go_wp2_with fail
    refine (r_few B ca cn cc pa pm pc false _ HF.out).mono ?_
    rintro e w2 ⟨rfl, hb2⟩
    have R_b_2 : Row w2 (w.heap.size) [.int .i64 B.id, .int .i64 B.kind, .int .i64 B.rooms, .int .i64 B.fr, .int .i64 B.un, .slice ca cn cc, .int .i64 B.pn, .int .i64 B.pd, .int .i64 B.fee, .slice pa pm pc] := by (repeat' (first | (with_reducible assumption) | (with_reducible refine Row.new' _ _ _ (by first | rfl | (simp; done) | omega)) | (with_reducible refine Row.alloc ?_ _) | (with_reducible refine Row.drew ?_) | (with_reducible refine Row.drewN ?_ _) | (with_reducible refine Row.step ?_ (by with_reducible assumption)) | (with_reducible refine Row.set2' ?_ _ _; first | exact ⟨_, _, by with_reducible assumption⟩ | exact ⟨_, _, Row.alloc (by with_reducible assumption) _⟩ | exact ⟨_, _, Row.alloc (Row.alloc (by with_reducible assumption) _) _⟩) | (with_reducible refine Row.other ?_ (by first | omega | (simp; done) | (simp; omega)) _)))
    have c_b_0_2 := R_b_2.cell 0 rfl
    have c_b_1_2 := R_b_2.cell 1 rfl
    have c_b_2_2 := R_b_2.cell 2 rfl
    have c_b_3_2 := R_b_2.cell 3 rfl
    have c_b_4_2 := R_b_2.cell 4 rfl
    have c_b_5_2 := R_b_2.cell 5 rfl
    have c_b_6_2 := R_b_2.cell 6 rfl
    have c_b_7_2 := R_b_2.cell 7 rfl
    have c_b_8_2 := R_b_2.cell 8 rfl
    have c_b_9_2 := R_b_2.cell 9 rfl
    have l_b_2 := R_b_2.lt
    have R_s_2 : Row w2 (w.heap.size + 1) [.int .i64 (s0), .int .i64 (s1)] := by (repeat' (first | (with_reducible assumption) | (with_reducible refine Row.new' _ _ _ (by first | rfl | (simp; done) | omega)) | (with_reducible refine Row.alloc ?_ _) | (with_reducible refine Row.drew ?_) | (with_reducible refine Row.drewN ?_ _) | (with_reducible refine Row.step ?_ (by with_reducible assumption)) | (with_reducible refine Row.set2' ?_ _ _; first | exact ⟨_, _, by with_reducible assumption⟩ | exact ⟨_, _, Row.alloc (by with_reducible assumption) _⟩ | exact ⟨_, _, Row.alloc (Row.alloc (by with_reducible assumption) _) _⟩) | (with_reducible refine Row.other ?_ (by first | omega | (simp; done) | (simp; omega)) _)))
    have c_s_0_2 := R_s_2.cell 0 rfl
    have c_s_1_2 := R_s_2.cell 1 rfl
    have l_s_2 := R_s_2.lt
    replace K := K.step (show Below w1.heap.size w1 w2 by (repeat' (first | (with_reducible exact Below.refl _ _) | (with_reducible assumption) | (with_reducible exact Bw.out (by with_reducible assumption)) | (with_reducible refine bw_alloc ?_ _) | (with_reducible refine bw_step ?_ (by with_reducible assumption)) | (with_reducible refine Below.alloc ?_ ?_ _) | (with_reducible refine Below.drew ?_) | (with_reducible refine below_drewN ?_ _) | (with_reducible refine Below.setCell ?_ ?_ _) | (with_reducible refine below_step ?_ (by with_reducible assumption) ?_) | (with_reducible exact Nat.le_refl _) | omega | (simp; omega) | (simp; done))))
    have HB2 : Below w.heap.size w w2 := by (repeat' (first | (with_reducible exact Below.refl _ _) | (with_reducible assumption) | (with_reducible exact Bw.out (by with_reducible assumption)) | (with_reducible refine bw_alloc ?_ _) | (with_reducible refine bw_step ?_ (by with_reducible assumption)) | (with_reducible refine Below.alloc ?_ ?_ _) | (with_reducible refine Below.drew ?_) | (with_reducible refine below_drewN ?_ _) | (with_reducible refine Below.setCell ?_ ?_ _) | (with_reducible refine below_step ?_ (by with_reducible assumption) ?_) | (with_reducible exact Nat.le_refl _) | omega | (simp; omega) | (simp; done)))
    clear R_b_1 c_b_0_1 c_b_1_1 c_b_2_1 c_b_3_1 c_b_4_1 c_b_5_1 c_b_6_1 c_b_7_1 c_b_8_1 c_b_9_1 R_s_1 c_s_0_1 c_s_1_1 hb1 HB1
    go_wp2_with fail
    go_ret
    refine ⟨(by first | rfl | exact ret_bool (by first | rfl | (simp; done) | (simp; omega))), ?_⟩
    (repeat' (first | (with_reducible exact Below.refl _ _) | (with_reducible assumption) | (with_reducible exact Bw.out (by with_reducible assumption)) | (with_reducible refine bw_alloc ?_ _) | (with_reducible refine bw_step ?_ (by with_reducible assumption)) | (with_reducible refine Below.alloc ?_ ?_ _) | (with_reducible refine Below.drew ?_) | (with_reducible refine below_drewN ?_ _) | (with_reducible refine Below.setCell ?_ ?_ _) | (with_reducible refine below_step ?_ (by with_reducible assumption) ?_) | (with_reducible exact Nat.le_refl _) | omega | (simp; omega) | (simp; done)))
  | true =>
    obtain ⟨V, hV⟩ : ∃ V, heV B day n = V := ⟨_, rfl⟩
    obtain ⟨E, hE⟩ : ∃ E, heE B day n = E := ⟨_, rfl⟩
    obtain ⟨vb, hvb⟩ : ∃ vb, blkB B = vb := ⟨_, rfl⟩
    obtain ⟨FV, hFV⟩ : ∃ V, feV B = V := ⟨_, rfl⟩
    obtain ⟨FE, hFE⟩ : ∃ E, feE B = E := ⟨_, rfl⟩
    have HV := Lib.hid hV
    have HE := Lib.hid hE
    have HVB := Lib.hid hvb
    have HFV := Lib.hid hFV
    have HFE := Lib.hid hFE
    clear hV hE hvb hFV hFE
    obtain ⟨PE, hPE⟩ : ∃ E, peE B day s0 s1 = E := ⟨_, rfl⟩
    have HP := Lib.hid hPE
    by_cases h0 : PE = 0
    · subst h0
      clear hPE
      go_enter Try.func3, Try.ntmps3
      go_wp2_with fail
      refine (head_any _).mono ?_
      rintro e w1 ⟨rfl, hb1⟩
      have R_b_1 : Row w1 (w.heap.size) [.int .i64 B.id, .int .i64 B.kind, .int .i64 B.rooms, .int .i64 B.fr, .int .i64 B.un, .slice ca cn cc, .int .i64 B.pn, .int .i64 B.pd, .int .i64 B.fee, .slice pa pm pc] := by (repeat' (first | (with_reducible assumption) | (with_reducible refine Row.new' _ _ _ (by first | rfl | (simp; done) | omega)) | (with_reducible refine Row.alloc ?_ _) | (with_reducible refine Row.drew ?_) | (with_reducible refine Row.drewN ?_ _) | (with_reducible refine Row.step ?_ (by with_reducible assumption)) | (with_reducible refine Row.set2' ?_ _ _; first | exact ⟨_, _, by with_reducible assumption⟩ | exact ⟨_, _, Row.alloc (by with_reducible assumption) _⟩ | exact ⟨_, _, Row.alloc (Row.alloc (by with_reducible assumption) _) _⟩) | (with_reducible refine Row.other ?_ (by first | omega | (simp; done) | (simp; omega)) _)))
      have c_b_0_1 := R_b_1.cell 0 rfl
      have c_b_1_1 := R_b_1.cell 1 rfl
      have c_b_2_1 := R_b_1.cell 2 rfl
      have c_b_3_1 := R_b_1.cell 3 rfl
      have c_b_4_1 := R_b_1.cell 4 rfl
      have c_b_5_1 := R_b_1.cell 5 rfl
      have c_b_6_1 := R_b_1.cell 6 rfl
      have c_b_7_1 := R_b_1.cell 7 rfl
      have c_b_8_1 := R_b_1.cell 8 rfl
      have c_b_9_1 := R_b_1.cell 9 rfl
      have l_b_1 := R_b_1.lt
      have R_s_1 : Row w1 (w.heap.size + 1) [.int .i64 (s0), .int .i64 (s1)] := by (repeat' (first | (with_reducible assumption) | (with_reducible refine Row.new' _ _ _ (by first | rfl | (simp; done) | omega)) | (with_reducible refine Row.alloc ?_ _) | (with_reducible refine Row.drew ?_) | (with_reducible refine Row.drewN ?_ _) | (with_reducible refine Row.step ?_ (by with_reducible assumption)) | (with_reducible refine Row.set2' ?_ _ _; first | exact ⟨_, _, by with_reducible assumption⟩ | exact ⟨_, _, Row.alloc (by with_reducible assumption) _⟩ | exact ⟨_, _, Row.alloc (Row.alloc (by with_reducible assumption) _) _⟩) | (with_reducible refine Row.other ?_ (by first | omega | (simp; done) | (simp; omega)) _)))
      have c_s_0_1 := R_s_1.cell 0 rfl
      have c_s_1_1 := R_s_1.cell 1 rfl
      have l_s_1 := R_s_1.lt
      replace K := K.step (show Below w.heap.size w w1 by (repeat' (first | (with_reducible exact Below.refl _ _) | (with_reducible assumption) | (with_reducible exact Bw.out (by with_reducible assumption)) | (with_reducible refine bw_alloc ?_ _) | (with_reducible refine bw_step ?_ (by with_reducible assumption)) | (with_reducible refine Below.alloc ?_ ?_ _) | (with_reducible refine Below.drew ?_) | (with_reducible refine below_drewN ?_ _) | (with_reducible refine Below.setCell ?_ ?_ _) | (with_reducible refine below_step ?_ (by with_reducible assumption) ?_) | (with_reducible exact Nat.le_refl _) | omega | (simp; omega) | (simp; done))))
      have HB1 : Below w.heap.size w w1 := by (repeat' (first | (with_reducible exact Below.refl _ _) | (with_reducible assumption) | (with_reducible exact Bw.out (by with_reducible assumption)) | (with_reducible refine bw_alloc ?_ _) | (with_reducible refine bw_step ?_ (by with_reducible assumption)) | (with_reducible refine Below.alloc ?_ ?_ _) | (with_reducible refine Below.drew ?_) | (with_reducible refine below_drewN ?_ _) | (with_reducible refine Below.setCell ?_ ?_ _) | (with_reducible refine below_step ?_ (by with_reducible assumption) ?_) | (with_reducible exact Nat.le_refl _) | omega | (simp; omega) | (simp; done)))
      go_wp2_with fail
      refine (r_few B ca cn cc pa pm pc true _ HF.out).mono ?_
      rintro e w2 ⟨rfl, hb2⟩
      have R_b_2 : Row w2 (w.heap.size) [.int .i64 B.id, .int .i64 B.kind, .int .i64 B.rooms, .int .i64 B.fr, .int .i64 B.un, .slice ca cn cc, .int .i64 B.pn, .int .i64 B.pd, .int .i64 B.fee, .slice pa pm pc] := by (repeat' (first | (with_reducible assumption) | (with_reducible refine Row.new' _ _ _ (by first | rfl | (simp; done) | omega)) | (with_reducible refine Row.alloc ?_ _) | (with_reducible refine Row.drew ?_) | (with_reducible refine Row.drewN ?_ _) | (with_reducible refine Row.step ?_ (by with_reducible assumption)) | (with_reducible refine Row.set2' ?_ _ _; first | exact ⟨_, _, by with_reducible assumption⟩ | exact ⟨_, _, Row.alloc (by with_reducible assumption) _⟩ | exact ⟨_, _, Row.alloc (Row.alloc (by with_reducible assumption) _) _⟩) | (with_reducible refine Row.other ?_ (by first | omega | (simp; done) | (simp; omega)) _)))
      have c_b_0_2 := R_b_2.cell 0 rfl
      have c_b_1_2 := R_b_2.cell 1 rfl
      have c_b_2_2 := R_b_2.cell 2 rfl
      have c_b_3_2 := R_b_2.cell 3 rfl
      have c_b_4_2 := R_b_2.cell 4 rfl
      have c_b_5_2 := R_b_2.cell 5 rfl
      have c_b_6_2 := R_b_2.cell 6 rfl
      have c_b_7_2 := R_b_2.cell 7 rfl
      have c_b_8_2 := R_b_2.cell 8 rfl
      have c_b_9_2 := R_b_2.cell 9 rfl
      have l_b_2 := R_b_2.lt
      have R_s_2 : Row w2 (w.heap.size + 1) [.int .i64 (s0), .int .i64 (s1)] := by (repeat' (first | (with_reducible assumption) | (with_reducible refine Row.new' _ _ _ (by first | rfl | (simp; done) | omega)) | (with_reducible refine Row.alloc ?_ _) | (with_reducible refine Row.drew ?_) | (with_reducible refine Row.drewN ?_ _) | (with_reducible refine Row.step ?_ (by with_reducible assumption)) | (with_reducible refine Row.set2' ?_ _ _; first | exact ⟨_, _, by with_reducible assumption⟩ | exact ⟨_, _, Row.alloc (by with_reducible assumption) _⟩ | exact ⟨_, _, Row.alloc (Row.alloc (by with_reducible assumption) _) _⟩) | (with_reducible refine Row.other ?_ (by first | omega | (simp; done) | (simp; omega)) _)))
      have c_s_0_2 := R_s_2.cell 0 rfl
      have c_s_1_2 := R_s_2.cell 1 rfl
      have l_s_2 := R_s_2.lt
      replace K := K.step (show Below w1.heap.size w1 w2 by (repeat' (first | (with_reducible exact Below.refl _ _) | (with_reducible assumption) | (with_reducible exact Bw.out (by with_reducible assumption)) | (with_reducible refine bw_alloc ?_ _) | (with_reducible refine bw_step ?_ (by with_reducible assumption)) | (with_reducible refine Below.alloc ?_ ?_ _) | (with_reducible refine Below.drew ?_) | (with_reducible refine below_drewN ?_ _) | (with_reducible refine Below.setCell ?_ ?_ _) | (with_reducible refine below_step ?_ (by with_reducible assumption) ?_) | (with_reducible exact Nat.le_refl _) | omega | (simp; omega) | (simp; done))))
      have HB2 : Below w.heap.size w w2 := by (repeat' (first | (with_reducible exact Below.refl _ _) | (with_reducible assumption) | (with_reducible exact Bw.out (by with_reducible assumption)) | (with_reducible refine bw_alloc ?_ _) | (with_reducible refine bw_step ?_ (by with_reducible assumption)) | (with_reducible refine Below.alloc ?_ ?_ _) | (with_reducible refine Below.drew ?_) | (with_reducible refine below_drewN ?_ _) | (with_reducible refine Below.setCell ?_ ?_ _) | (with_reducible refine below_step ?_ (by with_reducible assumption) ?_) | (with_reducible exact Nat.le_refl _) | omega | (simp; omega) | (simp; done)))
      clear R_b_1 c_b_0_1 c_b_1_1 c_b_2_1 c_b_3_1 c_b_4_1 c_b_5_1 c_b_6_1 c_b_7_1 c_b_8_1 c_b_9_1 R_s_1 c_s_0_1 c_s_1_1 hb1 HB1
      go_wp2_with fail
      refine (g_Held_any B day n _ _ _ _ _ _ _ (K.step (by (repeat' (first | (with_reducible exact Below.refl _ _) | (with_reducible assumption) | (with_reducible exact Bw.out (by with_reducible assumption)) | (with_reducible refine bw_alloc ?_ _) | (with_reducible refine bw_step ?_ (by with_reducible assumption)) | (with_reducible refine Below.alloc ?_ ?_ _) | (with_reducible refine Below.drew ?_) | (with_reducible refine below_drewN ?_ _) | (with_reducible refine Below.setCell ?_ ?_ _) | (with_reducible refine below_step ?_ (by with_reducible assumption) ?_) | (with_reducible exact Nat.le_refl _) | omega | (simp; omega) | (simp; done))))) V E HV.out HE.out).mono ?_
      rintro e w3 ⟨rfl, hb3⟩
      have R_b_3 : Row w3 (w.heap.size) [.int .i64 B.id, .int .i64 B.kind, .int .i64 B.rooms, .int .i64 B.fr, .int .i64 B.un, .slice ca cn cc, .int .i64 B.pn, .int .i64 B.pd, .int .i64 B.fee, .slice pa pm pc] := by (repeat' (first | (with_reducible assumption) | (with_reducible refine Row.new' _ _ _ (by first | rfl | (simp; done) | omega)) | (with_reducible refine Row.alloc ?_ _) | (with_reducible refine Row.drew ?_) | (with_reducible refine Row.drewN ?_ _) | (with_reducible refine Row.step ?_ (by with_reducible assumption)) | (with_reducible refine Row.set2' ?_ _ _; first | exact ⟨_, _, by with_reducible assumption⟩ | exact ⟨_, _, Row.alloc (by with_reducible assumption) _⟩ | exact ⟨_, _, Row.alloc (Row.alloc (by with_reducible assumption) _) _⟩) | (with_reducible refine Row.other ?_ (by first | omega | (simp; done) | (simp; omega)) _)))
      have c_b_0_3 := R_b_3.cell 0 rfl
      have c_b_1_3 := R_b_3.cell 1 rfl
      have c_b_2_3 := R_b_3.cell 2 rfl
      have c_b_3_3 := R_b_3.cell 3 rfl
      have c_b_4_3 := R_b_3.cell 4 rfl
      have c_b_5_3 := R_b_3.cell 5 rfl
      have c_b_6_3 := R_b_3.cell 6 rfl
      have c_b_7_3 := R_b_3.cell 7 rfl
      have c_b_8_3 := R_b_3.cell 8 rfl
      have c_b_9_3 := R_b_3.cell 9 rfl
      have l_b_3 := R_b_3.lt
      have R_s_3 : Row w3 (w.heap.size + 1) [.int .i64 (s0), .int .i64 (s1)] := by (repeat' (first | (with_reducible assumption) | (with_reducible refine Row.new' _ _ _ (by first | rfl | (simp; done) | omega)) | (with_reducible refine Row.alloc ?_ _) | (with_reducible refine Row.drew ?_) | (with_reducible refine Row.drewN ?_ _) | (with_reducible refine Row.step ?_ (by with_reducible assumption)) | (with_reducible refine Row.set2' ?_ _ _; first | exact ⟨_, _, by with_reducible assumption⟩ | exact ⟨_, _, Row.alloc (by with_reducible assumption) _⟩ | exact ⟨_, _, Row.alloc (Row.alloc (by with_reducible assumption) _) _⟩) | (with_reducible refine Row.other ?_ (by first | omega | (simp; done) | (simp; omega)) _)))
      have c_s_0_3 := R_s_3.cell 0 rfl
      have c_s_1_3 := R_s_3.cell 1 rfl
      have l_s_3 := R_s_3.lt
      replace K := K.step (show Below w2.heap.size w2 w3 by (repeat' (first | (with_reducible exact Below.refl _ _) | (with_reducible assumption) | (with_reducible exact Bw.out (by with_reducible assumption)) | (with_reducible refine bw_alloc ?_ _) | (with_reducible refine bw_step ?_ (by with_reducible assumption)) | (with_reducible refine Below.alloc ?_ ?_ _) | (with_reducible refine Below.drew ?_) | (with_reducible refine below_drewN ?_ _) | (with_reducible refine Below.setCell ?_ ?_ _) | (with_reducible refine below_step ?_ (by with_reducible assumption) ?_) | (with_reducible exact Nat.le_refl _) | omega | (simp; omega) | (simp; done))))
      have HB3 : Below w.heap.size w w3 := by (repeat' (first | (with_reducible exact Below.refl _ _) | (with_reducible assumption) | (with_reducible exact Bw.out (by with_reducible assumption)) | (with_reducible refine bw_alloc ?_ _) | (with_reducible refine bw_step ?_ (by with_reducible assumption)) | (with_reducible refine Below.alloc ?_ ?_ _) | (with_reducible refine Below.drew ?_) | (with_reducible refine below_drewN ?_ _) | (with_reducible refine Below.setCell ?_ ?_ _) | (with_reducible refine below_step ?_ (by with_reducible assumption) ?_) | (with_reducible exact Nat.le_refl _) | omega | (simp; omega) | (simp; done)))
      clear R_b_2 c_b_0_2 c_b_1_2 c_b_2_2 c_b_3_2 c_b_4_2 c_b_5_2 c_b_6_2 c_b_7_2 c_b_8_2 c_b_9_2 R_s_2 c_s_0_2 c_s_1_2 hb2 HB2
      go_wp2_with fail
      refine (r_Held_any B day n _ _ _ _ _ _ _ (K.step (by (repeat' (first | (with_reducible exact Below.refl _ _) | (with_reducible assumption) | (with_reducible exact Bw.out (by with_reducible assumption)) | (with_reducible refine bw_alloc ?_ _) | (with_reducible refine bw_step ?_ (by with_reducible assumption)) | (with_reducible refine Below.alloc ?_ ?_ _) | (with_reducible refine Below.drew ?_) | (with_reducible refine below_drewN ?_ _) | (with_reducible refine Below.setCell ?_ ?_ _) | (with_reducible refine below_step ?_ (by with_reducible assumption) ?_) | (with_reducible exact Nat.le_refl _) | omega | (simp; omega) | (simp; done))))) V E HV.out HE.out).mono ?_
      rintro e w4 ⟨rfl, hb4⟩
      have R_b_4 : Row w4 (w.heap.size) [.int .i64 B.id, .int .i64 B.kind, .int .i64 B.rooms, .int .i64 B.fr, .int .i64 B.un, .slice ca cn cc, .int .i64 B.pn, .int .i64 B.pd, .int .i64 B.fee, .slice pa pm pc] := by (repeat' (first | (with_reducible assumption) | (with_reducible refine Row.new' _ _ _ (by first | rfl | (simp; done) | omega)) | (with_reducible refine Row.alloc ?_ _) | (with_reducible refine Row.drew ?_) | (with_reducible refine Row.drewN ?_ _) | (with_reducible refine Row.step ?_ (by with_reducible assumption)) | (with_reducible refine Row.set2' ?_ _ _; first | exact ⟨_, _, by with_reducible assumption⟩ | exact ⟨_, _, Row.alloc (by with_reducible assumption) _⟩ | exact ⟨_, _, Row.alloc (Row.alloc (by with_reducible assumption) _) _⟩) | (with_reducible refine Row.other ?_ (by first | omega | (simp; done) | (simp; omega)) _)))
      have c_b_0_4 := R_b_4.cell 0 rfl
      have c_b_1_4 := R_b_4.cell 1 rfl
      have c_b_2_4 := R_b_4.cell 2 rfl
      have c_b_3_4 := R_b_4.cell 3 rfl
      have c_b_4_4 := R_b_4.cell 4 rfl
      have c_b_5_4 := R_b_4.cell 5 rfl
      have c_b_6_4 := R_b_4.cell 6 rfl
      have c_b_7_4 := R_b_4.cell 7 rfl
      have c_b_8_4 := R_b_4.cell 8 rfl
      have c_b_9_4 := R_b_4.cell 9 rfl
      have l_b_4 := R_b_4.lt
      have R_s_4 : Row w4 (w.heap.size + 1) [.int .i64 (s0), .int .i64 (s1)] := by (repeat' (first | (with_reducible assumption) | (with_reducible refine Row.new' _ _ _ (by first | rfl | (simp; done) | omega)) | (with_reducible refine Row.alloc ?_ _) | (with_reducible refine Row.drew ?_) | (with_reducible refine Row.drewN ?_ _) | (with_reducible refine Row.step ?_ (by with_reducible assumption)) | (with_reducible refine Row.set2' ?_ _ _; first | exact ⟨_, _, by with_reducible assumption⟩ | exact ⟨_, _, Row.alloc (by with_reducible assumption) _⟩ | exact ⟨_, _, Row.alloc (Row.alloc (by with_reducible assumption) _) _⟩) | (with_reducible refine Row.other ?_ (by first | omega | (simp; done) | (simp; omega)) _)))
      have c_s_0_4 := R_s_4.cell 0 rfl
      have c_s_1_4 := R_s_4.cell 1 rfl
      have l_s_4 := R_s_4.lt
      replace K := K.step (show Below w3.heap.size w3 w4 by (repeat' (first | (with_reducible exact Below.refl _ _) | (with_reducible assumption) | (with_reducible exact Bw.out (by with_reducible assumption)) | (with_reducible refine bw_alloc ?_ _) | (with_reducible refine bw_step ?_ (by with_reducible assumption)) | (with_reducible refine Below.alloc ?_ ?_ _) | (with_reducible refine Below.drew ?_) | (with_reducible refine below_drewN ?_ _) | (with_reducible refine Below.setCell ?_ ?_ _) | (with_reducible refine below_step ?_ (by with_reducible assumption) ?_) | (with_reducible exact Nat.le_refl _) | omega | (simp; omega) | (simp; done))))
      have HB4 : Below w.heap.size w w4 := by (repeat' (first | (with_reducible exact Below.refl _ _) | (with_reducible assumption) | (with_reducible exact Bw.out (by with_reducible assumption)) | (with_reducible refine bw_alloc ?_ _) | (with_reducible refine bw_step ?_ (by with_reducible assumption)) | (with_reducible refine Below.alloc ?_ ?_ _) | (with_reducible refine Below.drew ?_) | (with_reducible refine below_drewN ?_ _) | (with_reducible refine Below.setCell ?_ ?_ _) | (with_reducible refine below_step ?_ (by with_reducible assumption) ?_) | (with_reducible exact Nat.le_refl _) | omega | (simp; omega) | (simp; done)))
      clear R_b_3 c_b_0_3 c_b_1_3 c_b_2_3 c_b_3_3 c_b_4_3 c_b_5_3 c_b_6_3 c_b_7_3 c_b_8_3 c_b_9_3 R_s_3 c_s_0_3 c_s_1_3 hb3 HB3
      go_wp2_with fail
      refine AnyJ.beginP (fun w' : World => w'.cell? ⟨w.heap.size, 0, none⟩ = some (.int .i64 B.id) ∧ w'.cell? ⟨w.heap.size, 1, none⟩ = some (.int .i64 B.kind) ∧ w'.cell? ⟨w.heap.size, 2, none⟩ = some (.int .i64 B.rooms) ∧ w'.cell? ⟨w.heap.size, 3, none⟩ = some (.int .i64 B.fr) ∧ w'.cell? ⟨w.heap.size, 4, none⟩ = some (.int .i64 B.un) ∧ w'.cell? ⟨w.heap.size, 5, none⟩ = some (.slice ca cn cc) ∧ w'.cell? ⟨w.heap.size, 6, none⟩ = some (.int .i64 B.pn) ∧ w'.cell? ⟨w.heap.size, 7, none⟩ = some (.int .i64 B.pd) ∧ w'.cell? ⟨w.heap.size, 8, none⟩ = some (.int .i64 B.fee) ∧ w'.cell? ⟨w.heap.size, 9, none⟩ = some (.slice pa pm pc) ∧ w'.cell? ⟨w.heap.size + 1, 0, none⟩ = some (.int .i64 (s0)) ∧ w'.cell? ⟨w.heap.size + 1, 1, none⟩ = some (.int .i64 (s1))) (fun _ => true) (by kernel_rfl) ?_ (fun hS4 => ?_)
      · exact (show ∀ (P S : World → Prop) (W : World), P W → (∀ w', P w' → S w') → S W from fun P S W h f => f W h) (fun w' : World => Row w' (w.heap.size) [.int .i64 B.id, .int .i64 B.kind, .int .i64 B.rooms, .int .i64 B.fr, .int .i64 B.un, .slice ca cn cc, .int .i64 B.pn, .int .i64 B.pd, .int .i64 B.fee, .slice pa pm pc] ∧ Row w' (w.heap.size + 1) [.int .i64 (s0), .int .i64 (s1)]) (fun w' : World => w'.cell? ⟨w.heap.size, 0, none⟩ = some (.int .i64 B.id) ∧ w'.cell? ⟨w.heap.size, 1, none⟩ = some (.int .i64 B.kind) ∧ w'.cell? ⟨w.heap.size, 2, none⟩ = some (.int .i64 B.rooms) ∧ w'.cell? ⟨w.heap.size, 3, none⟩ = some (.int .i64 B.fr) ∧ w'.cell? ⟨w.heap.size, 4, none⟩ = some (.int .i64 B.un) ∧ w'.cell? ⟨w.heap.size, 5, none⟩ = some (.slice ca cn cc) ∧ w'.cell? ⟨w.heap.size, 6, none⟩ = some (.int .i64 B.pn) ∧ w'.cell? ⟨w.heap.size, 7, none⟩ = some (.int .i64 B.pd) ∧ w'.cell? ⟨w.heap.size, 8, none⟩ = some (.int .i64 B.fee) ∧ w'.cell? ⟨w.heap.size, 9, none⟩ = some (.slice pa pm pc) ∧ w'.cell? ⟨w.heap.size + 1, 0, none⟩ = some (.int .i64 (s0)) ∧ w'.cell? ⟨w.heap.size + 1, 1, none⟩ = some (.int .i64 (s1))) _ (⟨by (repeat' (first | (with_reducible assumption) | (with_reducible refine Row.new' _ _ _ (by first | rfl | (simp; done) | omega)) | (with_reducible refine Row.alloc ?_ _) | (with_reducible refine Row.drew ?_) | (with_reducible refine Row.drewN ?_ _) | (with_reducible refine Row.step ?_ (by with_reducible assumption)) | (with_reducible refine Row.set2' ?_ _ _; first | exact ⟨_, _, by with_reducible assumption⟩ | exact ⟨_, _, Row.alloc (by with_reducible assumption) _⟩ | exact ⟨_, _, Row.alloc (Row.alloc (by with_reducible assumption) _) _⟩) | (with_reducible refine Row.other ?_ (by first | omega | (simp; done) | (simp; omega)) _))), by (repeat' (first | (with_reducible assumption) | (with_reducible refine Row.new' _ _ _ (by first | rfl | (simp; done) | omega)) | (with_reducible refine Row.alloc ?_ _) | (with_reducible refine Row.drew ?_) | (with_reducible refine Row.drewN ?_ _) | (with_reducible refine Row.step ?_ (by with_reducible assumption)) | (with_reducible refine Row.set2' ?_ _ _; first | exact ⟨_, _, by with_reducible assumption⟩ | exact ⟨_, _, Row.alloc (by with_reducible assumption) _⟩ | exact ⟨_, _, Row.alloc (Row.alloc (by with_reducible assumption) _) _⟩) | (with_reducible refine Row.other ?_ (by first | omega | (simp; done) | (simp; omega)) _)))⟩) (fun w' ⟨hP0, hP1⟩ => ⟨hP0.cell 0 rfl, hP0.cell 1 rfl, hP0.cell 2 rfl, hP0.cell 3 rfl, hP0.cell 4 rfl, hP0.cell 5 rfl, hP0.cell 6 rfl, hP0.cell 7 rfl, hP0.cell 8 rfl, hP0.cell 9 rfl, hP1.cell 0 rfl, hP1.cell 1 rfl⟩)
      refine AnyJ.takeD (i := 0) (d := some 35) (v := ?_) rfl (by kernel_rfl) (by kernel_rfl) (by kernel_rfl) (by kernel_rfl) (by kernel_rfl) (fun _ _ _ h => h) (Or.inl ⟨by kernel_rfl, ?_⟩) hS4 ?_
      rotate_left
      · intro w' hS
        clear hS
        go_simp
        try with_reducible rfl
      refine AnyJ.takeD (i := 1) (d := some 36) (v := ?_) rfl (by kernel_rfl) (by kernel_rfl) (by kernel_rfl) (by kernel_rfl) (by kernel_rfl) (fun _ _ _ h => h) (Or.inl ⟨by kernel_rfl, ?_⟩) hS4 ?_
      rotate_left
      · intro w' hS
        clear hS
        go_simp
        try with_reducible rfl
      refine AnyJ.takeD (i := 2) (d := some 37) (v := ?_) rfl (by kernel_rfl) (by kernel_rfl) (by kernel_rfl) (by kernel_rfl) (by kernel_rfl) (fun _ _ _ h => h) (Or.inl ⟨by kernel_rfl, ?_⟩) hS4 ?_
      rotate_left
      · intro w' hS
        obtain ⟨sF0, sF1, sF2, sF3, sF4, sF5, sF6, sF7, sF8, sF9, sF10, sF11⟩ := hS
        go_simp
        try with_reducible rfl
      refine AnyJ.takeD (i := 4) (d := some 39) (v := ?_) rfl (by kernel_rfl) (by kernel_rfl) (by kernel_rfl) (by kernel_rfl) (by kernel_rfl) (fun _ _ _ h => h) (Or.inl ⟨by kernel_rfl, ?_⟩) hS4 ?_
      rotate_left
      · intro w' hS
        obtain ⟨sF0, sF1, sF2, sF3, sF4, sF5, sF6, sF7, sF8, sF9, sF10, sF11⟩ := hS
        go_simp
        try with_reducible rfl
      refine AnyJ.one (i := 3) (by kernel_rfl) rfl (fun Kz hKz => ?_)
      go_simp
      refine (g_valid_any B ca cn cc pa pm pc _ (K.step (by (repeat' (first | (with_reducible exact Below.refl _ _) | (with_reducible assumption) | (with_reducible exact Bw.out (by with_reducible assumption)) | (with_reducible refine bw_alloc ?_ _) | (with_reducible refine bw_step ?_ (by with_reducible assumption)) | (with_reducible refine Below.alloc ?_ ?_ _) | (with_reducible refine Below.drew ?_) | (with_reducible refine below_drewN ?_ _) | (with_reducible refine Below.setCell ?_ ?_ _) | (with_reducible refine below_step ?_ (by with_reducible assumption) ?_) | (with_reducible exact Nat.le_refl _) | omega | (simp; omega) | (simp; done))))) vb HVB.out).mono ?_
      rintro e w5 ⟨rfl, hb5⟩
      have R_b_5 : Row w5 (w.heap.size) [.int .i64 B.id, .int .i64 B.kind, .int .i64 B.rooms, .int .i64 B.fr, .int .i64 B.un, .slice ca cn cc, .int .i64 B.pn, .int .i64 B.pd, .int .i64 B.fee, .slice pa pm pc] := by (repeat' (first | (with_reducible assumption) | (with_reducible refine Row.new' _ _ _ (by first | rfl | (simp; done) | omega)) | (with_reducible refine Row.alloc ?_ _) | (with_reducible refine Row.drew ?_) | (with_reducible refine Row.drewN ?_ _) | (with_reducible refine Row.step ?_ (by with_reducible assumption)) | (with_reducible refine Row.set2' ?_ _ _; first | exact ⟨_, _, by with_reducible assumption⟩ | exact ⟨_, _, Row.alloc (by with_reducible assumption) _⟩ | exact ⟨_, _, Row.alloc (Row.alloc (by with_reducible assumption) _) _⟩) | (with_reducible refine Row.other ?_ (by first | omega | (simp; done) | (simp; omega)) _)))
      have c_b_0_5 := R_b_5.cell 0 rfl
      have c_b_1_5 := R_b_5.cell 1 rfl
      have c_b_2_5 := R_b_5.cell 2 rfl
      have c_b_3_5 := R_b_5.cell 3 rfl
      have c_b_4_5 := R_b_5.cell 4 rfl
      have c_b_5_5 := R_b_5.cell 5 rfl
      have c_b_6_5 := R_b_5.cell 6 rfl
      have c_b_7_5 := R_b_5.cell 7 rfl
      have c_b_8_5 := R_b_5.cell 8 rfl
      have c_b_9_5 := R_b_5.cell 9 rfl
      have l_b_5 := R_b_5.lt
      have R_s_5 : Row w5 (w.heap.size + 1) [.int .i64 (s0), .int .i64 (s1)] := by (repeat' (first | (with_reducible assumption) | (with_reducible refine Row.new' _ _ _ (by first | rfl | (simp; done) | omega)) | (with_reducible refine Row.alloc ?_ _) | (with_reducible refine Row.drew ?_) | (with_reducible refine Row.drewN ?_ _) | (with_reducible refine Row.step ?_ (by with_reducible assumption)) | (with_reducible refine Row.set2' ?_ _ _; first | exact ⟨_, _, by with_reducible assumption⟩ | exact ⟨_, _, Row.alloc (by with_reducible assumption) _⟩ | exact ⟨_, _, Row.alloc (Row.alloc (by with_reducible assumption) _) _⟩) | (with_reducible refine Row.other ?_ (by first | omega | (simp; done) | (simp; omega)) _)))
      have c_s_0_5 := R_s_5.cell 0 rfl
      have c_s_1_5 := R_s_5.cell 1 rfl
      have l_s_5 := R_s_5.lt
      replace K := K.step (show Below w4.heap.size w4 w5 by (repeat' (first | (with_reducible exact Below.refl _ _) | (with_reducible assumption) | (with_reducible exact Bw.out (by with_reducible assumption)) | (with_reducible refine bw_alloc ?_ _) | (with_reducible refine bw_step ?_ (by with_reducible assumption)) | (with_reducible refine Below.alloc ?_ ?_ _) | (with_reducible refine Below.drew ?_) | (with_reducible refine below_drewN ?_ _) | (with_reducible refine Below.setCell ?_ ?_ _) | (with_reducible refine below_step ?_ (by with_reducible assumption) ?_) | (with_reducible exact Nat.le_refl _) | omega | (simp; omega) | (simp; done))))
      have HB5 : Below w.heap.size w w5 := by (repeat' (first | (with_reducible exact Below.refl _ _) | (with_reducible assumption) | (with_reducible exact Bw.out (by with_reducible assumption)) | (with_reducible refine bw_alloc ?_ _) | (with_reducible refine bw_step ?_ (by with_reducible assumption)) | (with_reducible refine Below.alloc ?_ ?_ _) | (with_reducible refine Below.drew ?_) | (with_reducible refine below_drewN ?_ _) | (with_reducible refine Below.setCell ?_ ?_ _) | (with_reducible refine below_step ?_ (by with_reducible assumption) ?_) | (with_reducible exact Nat.le_refl _) | omega | (simp; omega) | (simp; done)))
      have hS5 : (fun w' : World => w'.cell? ⟨w.heap.size, 0, none⟩ = some (.int .i64 B.id) ∧ w'.cell? ⟨w.heap.size, 1, none⟩ = some (.int .i64 B.kind) ∧ w'.cell? ⟨w.heap.size, 2, none⟩ = some (.int .i64 B.rooms) ∧ w'.cell? ⟨w.heap.size, 3, none⟩ = some (.int .i64 B.fr) ∧ w'.cell? ⟨w.heap.size, 4, none⟩ = some (.int .i64 B.un) ∧ w'.cell? ⟨w.heap.size, 5, none⟩ = some (.slice ca cn cc) ∧ w'.cell? ⟨w.heap.size, 6, none⟩ = some (.int .i64 B.pn) ∧ w'.cell? ⟨w.heap.size, 7, none⟩ = some (.int .i64 B.pd) ∧ w'.cell? ⟨w.heap.size, 8, none⟩ = some (.int .i64 B.fee) ∧ w'.cell? ⟨w.heap.size, 9, none⟩ = some (.slice pa pm pc) ∧ w'.cell? ⟨w.heap.size + 1, 0, none⟩ = some (.int .i64 (s0)) ∧ w'.cell? ⟨w.heap.size + 1, 1, none⟩ = some (.int .i64 (s1))) w5 := ⟨c_b_0_5, c_b_1_5, c_b_2_5, c_b_3_5, c_b_4_5, c_b_5_5, c_b_6_5, c_b_7_5, c_b_8_5, c_b_9_5, c_s_0_5, c_s_1_5⟩
      refine hKz _ _ (fun _ => hS5) ?_
      clear hKz Kz hS4
      clear R_b_4 c_b_0_4 c_b_1_4 c_b_2_4 c_b_3_4 c_b_4_4 c_b_5_4 c_b_6_4 c_b_7_4 c_b_8_4 c_b_9_4 R_s_4 c_s_0_4 c_s_1_4 hb4 HB4
      refine AnyJ.one (i := 5) (by kernel_rfl) rfl (fun Kz hKz => ?_)
      go_simp
      refine (r_valid_any B ca cn cc pa pm pc _ (K.step (by (repeat' (first | (with_reducible exact Below.refl _ _) | (with_reducible assumption) | (with_reducible exact Bw.out (by with_reducible assumption)) | (with_reducible refine bw_alloc ?_ _) | (with_reducible refine bw_step ?_ (by with_reducible assumption)) | (with_reducible refine Below.alloc ?_ ?_ _) | (with_reducible refine Below.drew ?_) | (with_reducible refine below_drewN ?_ _) | (with_reducible refine Below.setCell ?_ ?_ _) | (with_reducible refine below_step ?_ (by with_reducible assumption) ?_) | (with_reducible exact Nat.le_refl _) | omega | (simp; omega) | (simp; done))))) vb HVB.out).mono ?_
      rintro e w6 ⟨rfl, hb6⟩
      have R_b_6 : Row w6 (w.heap.size) [.int .i64 B.id, .int .i64 B.kind, .int .i64 B.rooms, .int .i64 B.fr, .int .i64 B.un, .slice ca cn cc, .int .i64 B.pn, .int .i64 B.pd, .int .i64 B.fee, .slice pa pm pc] := by (repeat' (first | (with_reducible assumption) | (with_reducible refine Row.new' _ _ _ (by first | rfl | (simp; done) | omega)) | (with_reducible refine Row.alloc ?_ _) | (with_reducible refine Row.drew ?_) | (with_reducible refine Row.drewN ?_ _) | (with_reducible refine Row.step ?_ (by with_reducible assumption)) | (with_reducible refine Row.set2' ?_ _ _; first | exact ⟨_, _, by with_reducible assumption⟩ | exact ⟨_, _, Row.alloc (by with_reducible assumption) _⟩ | exact ⟨_, _, Row.alloc (Row.alloc (by with_reducible assumption) _) _⟩) | (with_reducible refine Row.other ?_ (by first | omega | (simp; done) | (simp; omega)) _)))
      have c_b_0_6 := R_b_6.cell 0 rfl
      have c_b_1_6 := R_b_6.cell 1 rfl
      have c_b_2_6 := R_b_6.cell 2 rfl
      have c_b_3_6 := R_b_6.cell 3 rfl
      have c_b_4_6 := R_b_6.cell 4 rfl
      have c_b_5_6 := R_b_6.cell 5 rfl
      have c_b_6_6 := R_b_6.cell 6 rfl
      have c_b_7_6 := R_b_6.cell 7 rfl
      have c_b_8_6 := R_b_6.cell 8 rfl
      have c_b_9_6 := R_b_6.cell 9 rfl
      have l_b_6 := R_b_6.lt
      have R_s_6 : Row w6 (w.heap.size + 1) [.int .i64 (s0), .int .i64 (s1)] := by (repeat' (first | (with_reducible assumption) | (with_reducible refine Row.new' _ _ _ (by first | rfl | (simp; done) | omega)) | (with_reducible refine Row.alloc ?_ _) | (with_reducible refine Row.drew ?_) | (with_reducible refine Row.drewN ?_ _) | (with_reducible refine Row.step ?_ (by with_reducible assumption)) | (with_reducible refine Row.set2' ?_ _ _; first | exact ⟨_, _, by with_reducible assumption⟩ | exact ⟨_, _, Row.alloc (by with_reducible assumption) _⟩ | exact ⟨_, _, Row.alloc (Row.alloc (by with_reducible assumption) _) _⟩) | (with_reducible refine Row.other ?_ (by first | omega | (simp; done) | (simp; omega)) _)))
      have c_s_0_6 := R_s_6.cell 0 rfl
      have c_s_1_6 := R_s_6.cell 1 rfl
      have l_s_6 := R_s_6.lt
      replace K := K.step (show Below w5.heap.size w5 w6 by (repeat' (first | (with_reducible exact Below.refl _ _) | (with_reducible assumption) | (with_reducible exact Bw.out (by with_reducible assumption)) | (with_reducible refine bw_alloc ?_ _) | (with_reducible refine bw_step ?_ (by with_reducible assumption)) | (with_reducible refine Below.alloc ?_ ?_ _) | (with_reducible refine Below.drew ?_) | (with_reducible refine below_drewN ?_ _) | (with_reducible refine Below.setCell ?_ ?_ _) | (with_reducible refine below_step ?_ (by with_reducible assumption) ?_) | (with_reducible exact Nat.le_refl _) | omega | (simp; omega) | (simp; done))))
      have HB6 : Below w.heap.size w w6 := by (repeat' (first | (with_reducible exact Below.refl _ _) | (with_reducible assumption) | (with_reducible exact Bw.out (by with_reducible assumption)) | (with_reducible refine bw_alloc ?_ _) | (with_reducible refine bw_step ?_ (by with_reducible assumption)) | (with_reducible refine Below.alloc ?_ ?_ _) | (with_reducible refine Below.drew ?_) | (with_reducible refine below_drewN ?_ _) | (with_reducible refine Below.setCell ?_ ?_ _) | (with_reducible refine below_step ?_ (by with_reducible assumption) ?_) | (with_reducible exact Nat.le_refl _) | omega | (simp; omega) | (simp; done)))
      have hS6 : (fun w' : World => w'.cell? ⟨w.heap.size, 0, none⟩ = some (.int .i64 B.id) ∧ w'.cell? ⟨w.heap.size, 1, none⟩ = some (.int .i64 B.kind) ∧ w'.cell? ⟨w.heap.size, 2, none⟩ = some (.int .i64 B.rooms) ∧ w'.cell? ⟨w.heap.size, 3, none⟩ = some (.int .i64 B.fr) ∧ w'.cell? ⟨w.heap.size, 4, none⟩ = some (.int .i64 B.un) ∧ w'.cell? ⟨w.heap.size, 5, none⟩ = some (.slice ca cn cc) ∧ w'.cell? ⟨w.heap.size, 6, none⟩ = some (.int .i64 B.pn) ∧ w'.cell? ⟨w.heap.size, 7, none⟩ = some (.int .i64 B.pd) ∧ w'.cell? ⟨w.heap.size, 8, none⟩ = some (.int .i64 B.fee) ∧ w'.cell? ⟨w.heap.size, 9, none⟩ = some (.slice pa pm pc) ∧ w'.cell? ⟨w.heap.size + 1, 0, none⟩ = some (.int .i64 (s0)) ∧ w'.cell? ⟨w.heap.size + 1, 1, none⟩ = some (.int .i64 (s1))) w6 := ⟨c_b_0_6, c_b_1_6, c_b_2_6, c_b_3_6, c_b_4_6, c_b_5_6, c_b_6_6, c_b_7_6, c_b_8_6, c_b_9_6, c_s_0_6, c_s_1_6⟩
      refine hKz _ _ (fun _ => hS6) ?_
      clear hKz Kz hS5
      clear R_b_5 c_b_0_5 c_b_1_5 c_b_2_5 c_b_3_5 c_b_4_5 c_b_5_5 c_b_6_5 c_b_7_5 c_b_8_5 c_b_9_5 R_s_5 c_s_0_5 c_s_1_5 hb5 HB5
      refine AnyJ.takeD (i := 6) (d := some 41) (v := ?_) rfl (by kernel_rfl) (by kernel_rfl) (by kernel_rfl) (by kernel_rfl) (by kernel_rfl) (fun _ _ _ h => h) (Or.inl ⟨by kernel_rfl, ?_⟩) hS6 ?_
      rotate_left
      · intro w' hS
        clear hS
        go_simp
        try with_reducible rfl
      refine AnyJ.takeD (i := 7) (d := some 42) (v := ?_) rfl (by kernel_rfl) (by kernel_rfl) (by kernel_rfl) (by kernel_rfl) (by kernel_rfl) (fun _ _ _ h => h) (Or.inl ⟨by kernel_rfl, ?_⟩) hS6 ?_
      rotate_left
      · intro w' hS
        clear hS
        go_simp
        try with_reducible rfl
      refine AnyJ.takeD (i := 8) (d := some 43) (v := ?_) rfl (by kernel_rfl) (by kernel_rfl) (by kernel_rfl) (by kernel_rfl) (by kernel_rfl) (fun _ _ _ h => h) (Or.inl ⟨by kernel_rfl, ?_⟩) hS6 ?_
      rotate_left
      · intro w' hS
        clear hS
        go_simp
        try with_reducible rfl
      refine AnyJ.takeD (i := 9) (d := some 44) (v := ?_) rfl (by kernel_rfl) (by kernel_rfl) (by kernel_rfl) (by kernel_rfl) (by kernel_rfl) (fun _ _ _ h => h) (Or.inl ⟨by kernel_rfl, ?_⟩) hS6 ?_
      rotate_left
      · intro w' hS
        clear hS
        go_simp
        try with_reducible rfl
      refine AnyJ.takeD (i := 10) (d := some 45) (v := ?_) rfl (by kernel_rfl) (by kernel_rfl) (by kernel_rfl) (by kernel_rfl) (by kernel_rfl) (fun _ _ _ h => h) (Or.inl ⟨by kernel_rfl, ?_⟩) hS6 ?_
      rotate_left
      · intro w' hS
        clear hS
        go_simp
        try with_reducible rfl
      refine AnyJ.takeD (i := 11) (d := some 46) (v := ?_) rfl (by kernel_rfl) (by kernel_rfl) (by kernel_rfl) (by kernel_rfl) (by kernel_rfl) (fun _ _ _ h => h) (Or.inl ⟨by kernel_rfl, ?_⟩) hS6 ?_
      rotate_left
      · intro w' hS
        clear hS
        go_simp
        try with_reducible rfl
      refine AnyJ.takeD (i := 12) (d := some 47) (v := ?_) rfl (by kernel_rfl) (by kernel_rfl) (by kernel_rfl) (by kernel_rfl) (by kernel_rfl) (fun _ _ _ h => h) (Or.inl ⟨by kernel_rfl, ?_⟩) hS6 ?_
      rotate_left
      · intro w' hS
        clear hS
        go_simp
        try with_reducible rfl
      refine AnyJ.takeD (i := 13) (d := some 48) (v := ?_) rfl (by kernel_rfl) (by kernel_rfl) (by kernel_rfl) (by kernel_rfl) (by kernel_rfl) (fun _ _ _ h => h) (Or.inl ⟨by kernel_rfl, ?_⟩) hS6 ?_
      rotate_left
      · intro w' hS
        clear hS
        go_simp
        try with_reducible rfl
      refine AnyJ.takeD (i := 14) (d := some 49) (v := ?_) rfl (by kernel_rfl) (by kernel_rfl) (by kernel_rfl) (by kernel_rfl) (by kernel_rfl) (fun _ _ _ h => h) (Or.inl ⟨by kernel_rfl, ?_⟩) hS6 ?_
      rotate_left
      · intro w' hS
        clear hS
        go_simp
        try with_reducible rfl
      refine AnyJ.takeD (i := 15) (d := some 50) (v := ?_) rfl (by kernel_rfl) (by kernel_rfl) (by kernel_rfl) (by kernel_rfl) (by kernel_rfl) (fun _ _ _ h => h) (Or.inl ⟨by kernel_rfl, ?_⟩) hS6 ?_
      rotate_left
      · intro w' hS
        clear hS
        go_simp
        try with_reducible rfl
      refine AnyJ.takeD (i := 16) (d := some 51) (v := ?_) rfl (by kernel_rfl) (by kernel_rfl) (by kernel_rfl) (by kernel_rfl) (by kernel_rfl) (fun _ _ _ h => h) (Or.inl ⟨by kernel_rfl, ?_⟩) hS6 ?_
      rotate_left
      · intro w' hS
        clear hS
        go_simp
        try with_reducible rfl
      refine AnyJ.takeD (i := 17) (d := some 52) (v := ?_) rfl (by kernel_rfl) (by kernel_rfl) (by kernel_rfl) (by kernel_rfl) (by kernel_rfl) (fun _ _ _ h => h) (Or.inl ⟨by kernel_rfl, ?_⟩) hS6 ?_
      rotate_left
      · intro w' hS
        clear hS
        go_simp
        try with_reducible rfl
      refine AnyJ.takeD (i := 18) (d := some 9) (v := ?_) rfl (by kernel_rfl) (by kernel_rfl) (by kernel_rfl) (by kernel_rfl) (by kernel_rfl) (fun _ _ _ h => h) (Or.inl ⟨by kernel_rfl, ?_⟩) hS6 ?_
      rotate_left
      · intro w' hS
        clear hS
        go_simp
        try with_reducible rfl
      refine AnyJ.done (by kernel_rfl) ?_ _
      clear hS6
      simp only [Act.put, List.setIfInBounds_toArray, List.set_cons_zero, List.set_cons_succ]
      go_wp2_with fail
      refine (g_Pick_some B day s0 s1 _ _ _ _ _ _ _ (K.step (by (repeat' (first | (with_reducible exact Below.refl _ _) | (with_reducible assumption) | (with_reducible exact Bw.out (by with_reducible assumption)) | (with_reducible refine bw_alloc ?_ _) | (with_reducible refine bw_step ?_ (by with_reducible assumption)) | (with_reducible refine Below.alloc ?_ ?_ _) | (with_reducible refine Below.drew ?_) | (with_reducible refine below_drewN ?_ _) | (with_reducible refine Below.setCell ?_ ?_ _) | (with_reducible refine below_step ?_ (by with_reducible assumption) ?_) | (with_reducible exact Nat.le_refl _) | omega | (simp; omega) | (simp; done))))) HP.out).mono ?_
      rintro e w7 ⟨g1, rfl, K1, hg1, hb7⟩
      have R_b_7 : Row w7 (w.heap.size) [.int .i64 B.id, .int .i64 B.kind, .int .i64 B.rooms, .int .i64 B.fr, .int .i64 B.un, .slice ca cn cc, .int .i64 B.pn, .int .i64 B.pd, .int .i64 B.fee, .slice pa pm pc] := by (repeat' (first | (with_reducible assumption) | (with_reducible refine Row.new' _ _ _ (by first | rfl | (simp; done) | omega)) | (with_reducible refine Row.alloc ?_ _) | (with_reducible refine Row.drew ?_) | (with_reducible refine Row.drewN ?_ _) | (with_reducible refine Row.step ?_ (by with_reducible assumption)) | (with_reducible refine Row.set2' ?_ _ _; first | exact ⟨_, _, by with_reducible assumption⟩ | exact ⟨_, _, Row.alloc (by with_reducible assumption) _⟩ | exact ⟨_, _, Row.alloc (Row.alloc (by with_reducible assumption) _) _⟩) | (with_reducible refine Row.other ?_ (by first | omega | (simp; done) | (simp; omega)) _)))
      have c_b_0_7 := R_b_7.cell 0 rfl
      have c_b_1_7 := R_b_7.cell 1 rfl
      have c_b_2_7 := R_b_7.cell 2 rfl
      have c_b_3_7 := R_b_7.cell 3 rfl
      have c_b_4_7 := R_b_7.cell 4 rfl
      have c_b_5_7 := R_b_7.cell 5 rfl
      have c_b_6_7 := R_b_7.cell 6 rfl
      have c_b_7_7 := R_b_7.cell 7 rfl
      have c_b_8_7 := R_b_7.cell 8 rfl
      have c_b_9_7 := R_b_7.cell 9 rfl
      have l_b_7 := R_b_7.lt
      have R_s_7 : Row w7 (w.heap.size + 1) [.int .i64 (s0), .int .i64 (s1)] := by (repeat' (first | (with_reducible assumption) | (with_reducible refine Row.new' _ _ _ (by first | rfl | (simp; done) | omega)) | (with_reducible refine Row.alloc ?_ _) | (with_reducible refine Row.drew ?_) | (with_reducible refine Row.drewN ?_ _) | (with_reducible refine Row.step ?_ (by with_reducible assumption)) | (with_reducible refine Row.set2' ?_ _ _; first | exact ⟨_, _, by with_reducible assumption⟩ | exact ⟨_, _, Row.alloc (by with_reducible assumption) _⟩ | exact ⟨_, _, Row.alloc (Row.alloc (by with_reducible assumption) _) _⟩) | (with_reducible refine Row.other ?_ (by first | omega | (simp; done) | (simp; omega)) _)))
      have c_s_0_7 := R_s_7.cell 0 rfl
      have c_s_1_7 := R_s_7.cell 1 rfl
      have l_s_7 := R_s_7.lt
      replace K := K.step (show Below w6.heap.size w6 w7 by (repeat' (first | (with_reducible exact Below.refl _ _) | (with_reducible assumption) | (with_reducible exact Bw.out (by with_reducible assumption)) | (with_reducible refine bw_alloc ?_ _) | (with_reducible refine bw_step ?_ (by with_reducible assumption)) | (with_reducible refine Below.alloc ?_ ?_ _) | (with_reducible refine Below.drew ?_) | (with_reducible refine below_drewN ?_ _) | (with_reducible refine Below.setCell ?_ ?_ _) | (with_reducible refine below_step ?_ (by with_reducible assumption) ?_) | (with_reducible exact Nat.le_refl _) | omega | (simp; omega) | (simp; done))))
      have HB7 : Below w.heap.size w w7 := by (repeat' (first | (with_reducible exact Below.refl _ _) | (with_reducible assumption) | (with_reducible exact Bw.out (by with_reducible assumption)) | (with_reducible refine bw_alloc ?_ _) | (with_reducible refine bw_step ?_ (by with_reducible assumption)) | (with_reducible refine Below.alloc ?_ ?_ _) | (with_reducible refine Below.drew ?_) | (with_reducible refine below_drewN ?_ _) | (with_reducible refine Below.setCell ?_ ?_ _) | (with_reducible refine below_step ?_ (by with_reducible assumption) ?_) | (with_reducible exact Nat.le_refl _) | omega | (simp; omega) | (simp; done)))
      clear R_b_6 c_b_0_6 c_b_1_6 c_b_2_6 c_b_3_6 c_b_4_6 c_b_5_6 c_b_6_6 c_b_7_6 c_b_8_6 c_b_9_6 R_s_6 c_s_0_6 c_s_1_6 hb6 HB6
      go_wp2_with fail
      refine (r_Pick_some B day s0 s1 _ _ _ _ _ _ _ (K.step (by (repeat' (first | (with_reducible exact Below.refl _ _) | (with_reducible assumption) | (with_reducible exact Bw.out (by with_reducible assumption)) | (with_reducible refine bw_alloc ?_ _) | (with_reducible refine bw_step ?_ (by with_reducible assumption)) | (with_reducible refine Below.alloc ?_ ?_ _) | (with_reducible refine Below.drew ?_) | (with_reducible refine below_drewN ?_ _) | (with_reducible refine Below.setCell ?_ ?_ _) | (with_reducible refine below_step ?_ (by with_reducible assumption) ?_) | (with_reducible exact Nat.le_refl _) | omega | (simp; omega) | (simp; done))))) HP.out).mono ?_
      rintro e w8 ⟨g2, cp, rfl, K2, hg2, hb8⟩
      have R_b_8 : Row w8 (w.heap.size) [.int .i64 B.id, .int .i64 B.kind, .int .i64 B.rooms, .int .i64 B.fr, .int .i64 B.un, .slice ca cn cc, .int .i64 B.pn, .int .i64 B.pd, .int .i64 B.fee, .slice pa pm pc] := by (repeat' (first | (with_reducible assumption) | (with_reducible refine Row.new' _ _ _ (by first | rfl | (simp; done) | omega)) | (with_reducible refine Row.alloc ?_ _) | (with_reducible refine Row.drew ?_) | (with_reducible refine Row.drewN ?_ _) | (with_reducible refine Row.step ?_ (by with_reducible assumption)) | (with_reducible refine Row.set2' ?_ _ _; first | exact ⟨_, _, by with_reducible assumption⟩ | exact ⟨_, _, Row.alloc (by with_reducible assumption) _⟩ | exact ⟨_, _, Row.alloc (Row.alloc (by with_reducible assumption) _) _⟩) | (with_reducible refine Row.other ?_ (by first | omega | (simp; done) | (simp; omega)) _)))
      have c_b_0_8 := R_b_8.cell 0 rfl
      have c_b_1_8 := R_b_8.cell 1 rfl
      have c_b_2_8 := R_b_8.cell 2 rfl
      have c_b_3_8 := R_b_8.cell 3 rfl
      have c_b_4_8 := R_b_8.cell 4 rfl
      have c_b_5_8 := R_b_8.cell 5 rfl
      have c_b_6_8 := R_b_8.cell 6 rfl
      have c_b_7_8 := R_b_8.cell 7 rfl
      have c_b_8_8 := R_b_8.cell 8 rfl
      have c_b_9_8 := R_b_8.cell 9 rfl
      have l_b_8 := R_b_8.lt
      have R_s_8 : Row w8 (w.heap.size + 1) [.int .i64 (s0), .int .i64 (s1)] := by (repeat' (first | (with_reducible assumption) | (with_reducible refine Row.new' _ _ _ (by first | rfl | (simp; done) | omega)) | (with_reducible refine Row.alloc ?_ _) | (with_reducible refine Row.drew ?_) | (with_reducible refine Row.drewN ?_ _) | (with_reducible refine Row.step ?_ (by with_reducible assumption)) | (with_reducible refine Row.set2' ?_ _ _; first | exact ⟨_, _, by with_reducible assumption⟩ | exact ⟨_, _, Row.alloc (by with_reducible assumption) _⟩ | exact ⟨_, _, Row.alloc (Row.alloc (by with_reducible assumption) _) _⟩) | (with_reducible refine Row.other ?_ (by first | omega | (simp; done) | (simp; omega)) _)))
      have c_s_0_8 := R_s_8.cell 0 rfl
      have c_s_1_8 := R_s_8.cell 1 rfl
      have l_s_8 := R_s_8.lt
      have R_x_8 : Row w8 (w7.heap.size) [.int .i64 B.id, .int .i64 B.kind, .int .i64 B.rooms, .int .i64 B.fr, .int .i64 B.un, .slice ca cn cc, .int .i64 B.pn, .int .i64 B.pd, .int .i64 B.fee, .slice (some ⟨g1, 0, none⟩) pm pm] := by (repeat' (first | (with_reducible assumption) | (with_reducible refine Row.new' _ _ _ (by first | rfl | (simp; done) | omega)) | (with_reducible refine Row.alloc ?_ _) | (with_reducible refine Row.drew ?_) | (with_reducible refine Row.drewN ?_ _) | (with_reducible refine Row.step ?_ (by with_reducible assumption)) | (with_reducible refine Row.set2' ?_ _ _; first | exact ⟨_, _, by with_reducible assumption⟩ | exact ⟨_, _, Row.alloc (by with_reducible assumption) _⟩ | exact ⟨_, _, Row.alloc (Row.alloc (by with_reducible assumption) _) _⟩) | (with_reducible refine Row.other ?_ (by first | omega | (simp; done) | (simp; omega)) _)))
      have c_x_0_8 := R_x_8.cell 0 rfl
      have c_x_1_8 := R_x_8.cell 1 rfl
      have c_x_2_8 := R_x_8.cell 2 rfl
      have c_x_3_8 := R_x_8.cell 3 rfl
      have c_x_4_8 := R_x_8.cell 4 rfl
      have c_x_5_8 := R_x_8.cell 5 rfl
      have c_x_6_8 := R_x_8.cell 6 rfl
      have c_x_7_8 := R_x_8.cell 7 rfl
      have c_x_8_8 := R_x_8.cell 8 rfl
      have c_x_9_8 := R_x_8.cell 9 rfl
      have l_x_8 := R_x_8.lt
      replace K := K.step (show Below w7.heap.size w7 w8 by (repeat' (first | (with_reducible exact Below.refl _ _) | (with_reducible assumption) | (with_reducible exact Bw.out (by with_reducible assumption)) | (with_reducible refine bw_alloc ?_ _) | (with_reducible refine bw_step ?_ (by with_reducible assumption)) | (with_reducible refine Below.alloc ?_ ?_ _) | (with_reducible refine Below.drew ?_) | (with_reducible refine below_drewN ?_ _) | (with_reducible refine Below.setCell ?_ ?_ _) | (with_reducible refine below_step ?_ (by with_reducible assumption) ?_) | (with_reducible exact Nat.le_refl _) | omega | (simp; omega) | (simp; done))))
      replace K1 := K1.step (show Below w7.heap.size w7 w8 by (repeat' (first | (with_reducible exact Below.refl _ _) | (with_reducible assumption) | (with_reducible exact Bw.out (by with_reducible assumption)) | (with_reducible refine bw_alloc ?_ _) | (with_reducible refine bw_step ?_ (by with_reducible assumption)) | (with_reducible refine Below.alloc ?_ ?_ _) | (with_reducible refine Below.drew ?_) | (with_reducible refine below_drewN ?_ _) | (with_reducible refine Below.setCell ?_ ?_ _) | (with_reducible refine below_step ?_ (by with_reducible assumption) ?_) | (with_reducible exact Nat.le_refl _) | omega | (simp; omega) | (simp; done))))
      have HB8 : Below w.heap.size w w8 := by (repeat' (first | (with_reducible exact Below.refl _ _) | (with_reducible assumption) | (with_reducible exact Bw.out (by with_reducible assumption)) | (with_reducible refine bw_alloc ?_ _) | (with_reducible refine bw_step ?_ (by with_reducible assumption)) | (with_reducible refine Below.alloc ?_ ?_ _) | (with_reducible refine Below.drew ?_) | (with_reducible refine below_drewN ?_ _) | (with_reducible refine Below.setCell ?_ ?_ _) | (with_reducible refine below_step ?_ (by with_reducible assumption) ?_) | (with_reducible exact Nat.le_refl _) | omega | (simp; omega) | (simp; done)))
      clear R_b_7 c_b_0_7 c_b_1_7 c_b_2_7 c_b_3_7 c_b_4_7 c_b_5_7 c_b_6_7 c_b_7_7 c_b_8_7 c_b_9_7 R_s_7 c_s_0_7 c_s_1_7 hb7 HB7
      go_wp2_with fail
      refine (r_Same (pickB B s0 s1) ca cn cc (some ⟨g1, 0, none⟩) pm pm ca cc (some ⟨g2, 0, none⟩) cp _ (K1.step (by (repeat' (first | (with_reducible exact Below.refl _ _) | (with_reducible assumption) | (with_reducible exact Bw.out (by with_reducible assumption)) | (with_reducible refine bw_alloc ?_ _) | (with_reducible refine bw_step ?_ (by with_reducible assumption)) | (with_reducible refine Below.alloc ?_ ?_ _) | (with_reducible refine Below.drew ?_) | (with_reducible refine below_drewN ?_ _) | (with_reducible refine Below.setCell ?_ ?_ _) | (with_reducible refine below_step ?_ (by with_reducible assumption) ?_) | (with_reducible exact Nat.le_refl _) | omega | (simp; omega) | (simp; done))))) (K2.step (by (repeat' (first | (with_reducible exact Below.refl _ _) | (with_reducible assumption) | (with_reducible exact Bw.out (by with_reducible assumption)) | (with_reducible refine bw_alloc ?_ _) | (with_reducible refine bw_step ?_ (by with_reducible assumption)) | (with_reducible refine Below.alloc ?_ ?_ _) | (with_reducible refine Below.drew ?_) | (with_reducible refine below_drewN ?_ _) | (with_reducible refine Below.setCell ?_ ?_ _) | (with_reducible refine below_step ?_ (by with_reducible assumption) ?_) | (with_reducible exact Nat.le_refl _) | omega | (simp; omega) | (simp; done)))))).mono ?_
      rintro e w9 ⟨rfl, hb9⟩
      have R_b_9 : Row w9 (w.heap.size) [.int .i64 B.id, .int .i64 B.kind, .int .i64 B.rooms, .int .i64 B.fr, .int .i64 B.un, .slice ca cn cc, .int .i64 B.pn, .int .i64 B.pd, .int .i64 B.fee, .slice pa pm pc] := by (repeat' (first | (with_reducible assumption) | (with_reducible refine Row.new' _ _ _ (by first | rfl | (simp; done) | omega)) | (with_reducible refine Row.alloc ?_ _) | (with_reducible refine Row.drew ?_) | (with_reducible refine Row.drewN ?_ _) | (with_reducible refine Row.step ?_ (by with_reducible assumption)) | (with_reducible refine Row.set2' ?_ _ _; first | exact ⟨_, _, by with_reducible assumption⟩ | exact ⟨_, _, Row.alloc (by with_reducible assumption) _⟩ | exact ⟨_, _, Row.alloc (Row.alloc (by with_reducible assumption) _) _⟩) | (with_reducible refine Row.other ?_ (by first | omega | (simp; done) | (simp; omega)) _)))
      have c_b_0_9 := R_b_9.cell 0 rfl
      have c_b_1_9 := R_b_9.cell 1 rfl
      have c_b_2_9 := R_b_9.cell 2 rfl
      have c_b_3_9 := R_b_9.cell 3 rfl
      have c_b_4_9 := R_b_9.cell 4 rfl
      have c_b_5_9 := R_b_9.cell 5 rfl
      have c_b_6_9 := R_b_9.cell 6 rfl
      have c_b_7_9 := R_b_9.cell 7 rfl
      have c_b_8_9 := R_b_9.cell 8 rfl
      have c_b_9_9 := R_b_9.cell 9 rfl
      have l_b_9 := R_b_9.lt
      have R_s_9 : Row w9 (w.heap.size + 1) [.int .i64 (s0), .int .i64 (s1)] := by (repeat' (first | (with_reducible assumption) | (with_reducible refine Row.new' _ _ _ (by first | rfl | (simp; done) | omega)) | (with_reducible refine Row.alloc ?_ _) | (with_reducible refine Row.drew ?_) | (with_reducible refine Row.drewN ?_ _) | (with_reducible refine Row.step ?_ (by with_reducible assumption)) | (with_reducible refine Row.set2' ?_ _ _; first | exact ⟨_, _, by with_reducible assumption⟩ | exact ⟨_, _, Row.alloc (by with_reducible assumption) _⟩ | exact ⟨_, _, Row.alloc (Row.alloc (by with_reducible assumption) _) _⟩) | (with_reducible refine Row.other ?_ (by first | omega | (simp; done) | (simp; omega)) _)))
      have c_s_0_9 := R_s_9.cell 0 rfl
      have c_s_1_9 := R_s_9.cell 1 rfl
      have l_s_9 := R_s_9.lt
      have R_x_9 : Row w9 (w7.heap.size) [.int .i64 B.id, .int .i64 B.kind, .int .i64 B.rooms, .int .i64 B.fr, .int .i64 B.un, .slice ca cn cc, .int .i64 B.pn, .int .i64 B.pd, .int .i64 B.fee, .slice (some ⟨g1, 0, none⟩) pm pm] := by (repeat' (first | (with_reducible assumption) | (with_reducible refine Row.new' _ _ _ (by first | rfl | (simp; done) | omega)) | (with_reducible refine Row.alloc ?_ _) | (with_reducible refine Row.drew ?_) | (with_reducible refine Row.drewN ?_ _) | (with_reducible refine Row.step ?_ (by with_reducible assumption)) | (with_reducible refine Row.set2' ?_ _ _; first | exact ⟨_, _, by with_reducible assumption⟩ | exact ⟨_, _, Row.alloc (by with_reducible assumption) _⟩ | exact ⟨_, _, Row.alloc (Row.alloc (by with_reducible assumption) _) _⟩) | (with_reducible refine Row.other ?_ (by first | omega | (simp; done) | (simp; omega)) _)))
      have c_x_0_9 := R_x_9.cell 0 rfl
      have c_x_1_9 := R_x_9.cell 1 rfl
      have c_x_2_9 := R_x_9.cell 2 rfl
      have c_x_3_9 := R_x_9.cell 3 rfl
      have c_x_4_9 := R_x_9.cell 4 rfl
      have c_x_5_9 := R_x_9.cell 5 rfl
      have c_x_6_9 := R_x_9.cell 6 rfl
      have c_x_7_9 := R_x_9.cell 7 rfl
      have c_x_8_9 := R_x_9.cell 8 rfl
      have c_x_9_9 := R_x_9.cell 9 rfl
      have l_x_9 := R_x_9.lt
      have R_y_9 : Row w9 (w8.heap.size) [.int .i64 B.id, .int .i64 B.kind, .int .i64 B.rooms, .int .i64 B.fr, .int .i64 B.un, .slice ca cn cc, .int .i64 B.pn, .int .i64 B.pd, .int .i64 B.fee, .slice (some ⟨g2, 0, none⟩) pm cp] := by (repeat' (first | (with_reducible assumption) | (with_reducible refine Row.new' _ _ _ (by first | rfl | (simp; done) | omega)) | (with_reducible refine Row.alloc ?_ _) | (with_reducible refine Row.drew ?_) | (with_reducible refine Row.drewN ?_ _) | (with_reducible refine Row.step ?_ (by with_reducible assumption)) | (with_reducible refine Row.set2' ?_ _ _; first | exact ⟨_, _, by with_reducible assumption⟩ | exact ⟨_, _, Row.alloc (by with_reducible assumption) _⟩ | exact ⟨_, _, Row.alloc (Row.alloc (by with_reducible assumption) _) _⟩) | (with_reducible refine Row.other ?_ (by first | omega | (simp; done) | (simp; omega)) _)))
      have c_y_0_9 := R_y_9.cell 0 rfl
      have c_y_1_9 := R_y_9.cell 1 rfl
      have c_y_2_9 := R_y_9.cell 2 rfl
      have c_y_3_9 := R_y_9.cell 3 rfl
      have c_y_4_9 := R_y_9.cell 4 rfl
      have c_y_5_9 := R_y_9.cell 5 rfl
      have c_y_6_9 := R_y_9.cell 6 rfl
      have c_y_7_9 := R_y_9.cell 7 rfl
      have c_y_8_9 := R_y_9.cell 8 rfl
      have c_y_9_9 := R_y_9.cell 9 rfl
      have l_y_9 := R_y_9.lt
      replace K := K.step (show Below w8.heap.size w8 w9 by (repeat' (first | (with_reducible exact Below.refl _ _) | (with_reducible assumption) | (with_reducible exact Bw.out (by with_reducible assumption)) | (with_reducible refine bw_alloc ?_ _) | (with_reducible refine bw_step ?_ (by with_reducible assumption)) | (with_reducible refine Below.alloc ?_ ?_ _) | (with_reducible refine Below.drew ?_) | (with_reducible refine below_drewN ?_ _) | (with_reducible refine Below.setCell ?_ ?_ _) | (with_reducible refine below_step ?_ (by with_reducible assumption) ?_) | (with_reducible exact Nat.le_refl _) | omega | (simp; omega) | (simp; done))))
      replace K1 := K1.step (show Below w8.heap.size w8 w9 by (repeat' (first | (with_reducible exact Below.refl _ _) | (with_reducible assumption) | (with_reducible exact Bw.out (by with_reducible assumption)) | (with_reducible refine bw_alloc ?_ _) | (with_reducible refine bw_step ?_ (by with_reducible assumption)) | (with_reducible refine Below.alloc ?_ ?_ _) | (with_reducible refine Below.drew ?_) | (with_reducible refine below_drewN ?_ _) | (with_reducible refine Below.setCell ?_ ?_ _) | (with_reducible refine below_step ?_ (by with_reducible assumption) ?_) | (with_reducible exact Nat.le_refl _) | omega | (simp; omega) | (simp; done))))
      replace K2 := K2.step (show Below w8.heap.size w8 w9 by (repeat' (first | (with_reducible exact Below.refl _ _) | (with_reducible assumption) | (with_reducible exact Bw.out (by with_reducible assumption)) | (with_reducible refine bw_alloc ?_ _) | (with_reducible refine bw_step ?_ (by with_reducible assumption)) | (with_reducible refine Below.alloc ?_ ?_ _) | (with_reducible refine Below.drew ?_) | (with_reducible refine below_drewN ?_ _) | (with_reducible refine Below.setCell ?_ ?_ _) | (with_reducible refine below_step ?_ (by with_reducible assumption) ?_) | (with_reducible exact Nat.le_refl _) | omega | (simp; omega) | (simp; done))))
      have HB9 : Below w.heap.size w w9 := by (repeat' (first | (with_reducible exact Below.refl _ _) | (with_reducible assumption) | (with_reducible exact Bw.out (by with_reducible assumption)) | (with_reducible refine bw_alloc ?_ _) | (with_reducible refine bw_step ?_ (by with_reducible assumption)) | (with_reducible refine Below.alloc ?_ ?_ _) | (with_reducible refine Below.drew ?_) | (with_reducible refine below_drewN ?_ _) | (with_reducible refine Below.setCell ?_ ?_ _) | (with_reducible refine below_step ?_ (by with_reducible assumption) ?_) | (with_reducible exact Nat.le_refl _) | omega | (simp; omega) | (simp; done)))
      clear R_b_8 c_b_0_8 c_b_1_8 c_b_2_8 c_b_3_8 c_b_4_8 c_b_5_8 c_b_6_8 c_b_7_8 c_b_8_8 c_b_9_8 R_s_8 c_s_0_8 c_s_1_8 R_x_8 c_x_0_8 c_x_1_8 c_x_2_8 c_x_3_8 c_x_4_8 c_x_5_8 c_x_6_8 c_x_7_8 c_x_8_8 c_x_9_8 hb8 HB8
      go_wp2_with fail
      refine (g_Fee_any B _ _ _ _ _ _ _ (K.step (by (repeat' (first | (with_reducible exact Below.refl _ _) | (with_reducible assumption) | (with_reducible exact Bw.out (by with_reducible assumption)) | (with_reducible refine bw_alloc ?_ _) | (with_reducible refine bw_step ?_ (by with_reducible assumption)) | (with_reducible refine Below.alloc ?_ ?_ _) | (with_reducible refine Below.drew ?_) | (with_reducible refine below_drewN ?_ _) | (with_reducible refine Below.setCell ?_ ?_ _) | (with_reducible refine below_step ?_ (by with_reducible assumption) ?_) | (with_reducible exact Nat.le_refl _) | omega | (simp; omega) | (simp; done))))) FV FE HFV.out HFE.out).mono ?_
      rintro e w10 ⟨rfl, hb10⟩
      have R_b_10 : Row w10 (w.heap.size) [.int .i64 B.id, .int .i64 B.kind, .int .i64 B.rooms, .int .i64 B.fr, .int .i64 B.un, .slice ca cn cc, .int .i64 B.pn, .int .i64 B.pd, .int .i64 B.fee, .slice pa pm pc] := by (repeat' (first | (with_reducible assumption) | (with_reducible refine Row.new' _ _ _ (by first | rfl | (simp; done) | omega)) | (with_reducible refine Row.alloc ?_ _) | (with_reducible refine Row.drew ?_) | (with_reducible refine Row.drewN ?_ _) | (with_reducible refine Row.step ?_ (by with_reducible assumption)) | (with_reducible refine Row.set2' ?_ _ _; first | exact ⟨_, _, by with_reducible assumption⟩ | exact ⟨_, _, Row.alloc (by with_reducible assumption) _⟩ | exact ⟨_, _, Row.alloc (Row.alloc (by with_reducible assumption) _) _⟩) | (with_reducible refine Row.other ?_ (by first | omega | (simp; done) | (simp; omega)) _)))
      have c_b_0_10 := R_b_10.cell 0 rfl
      have c_b_1_10 := R_b_10.cell 1 rfl
      have c_b_2_10 := R_b_10.cell 2 rfl
      have c_b_3_10 := R_b_10.cell 3 rfl
      have c_b_4_10 := R_b_10.cell 4 rfl
      have c_b_5_10 := R_b_10.cell 5 rfl
      have c_b_6_10 := R_b_10.cell 6 rfl
      have c_b_7_10 := R_b_10.cell 7 rfl
      have c_b_8_10 := R_b_10.cell 8 rfl
      have c_b_9_10 := R_b_10.cell 9 rfl
      have l_b_10 := R_b_10.lt
      have R_s_10 : Row w10 (w.heap.size + 1) [.int .i64 (s0), .int .i64 (s1)] := by (repeat' (first | (with_reducible assumption) | (with_reducible refine Row.new' _ _ _ (by first | rfl | (simp; done) | omega)) | (with_reducible refine Row.alloc ?_ _) | (with_reducible refine Row.drew ?_) | (with_reducible refine Row.drewN ?_ _) | (with_reducible refine Row.step ?_ (by with_reducible assumption)) | (with_reducible refine Row.set2' ?_ _ _; first | exact ⟨_, _, by with_reducible assumption⟩ | exact ⟨_, _, Row.alloc (by with_reducible assumption) _⟩ | exact ⟨_, _, Row.alloc (Row.alloc (by with_reducible assumption) _) _⟩) | (with_reducible refine Row.other ?_ (by first | omega | (simp; done) | (simp; omega)) _)))
      have c_s_0_10 := R_s_10.cell 0 rfl
      have c_s_1_10 := R_s_10.cell 1 rfl
      have l_s_10 := R_s_10.lt
      have R_x_10 : Row w10 (w7.heap.size) [.int .i64 B.id, .int .i64 B.kind, .int .i64 B.rooms, .int .i64 B.fr, .int .i64 B.un, .slice ca cn cc, .int .i64 B.pn, .int .i64 B.pd, .int .i64 B.fee, .slice (some ⟨g1, 0, none⟩) pm pm] := by (repeat' (first | (with_reducible assumption) | (with_reducible refine Row.new' _ _ _ (by first | rfl | (simp; done) | omega)) | (with_reducible refine Row.alloc ?_ _) | (with_reducible refine Row.drew ?_) | (with_reducible refine Row.drewN ?_ _) | (with_reducible refine Row.step ?_ (by with_reducible assumption)) | (with_reducible refine Row.set2' ?_ _ _; first | exact ⟨_, _, by with_reducible assumption⟩ | exact ⟨_, _, Row.alloc (by with_reducible assumption) _⟩ | exact ⟨_, _, Row.alloc (Row.alloc (by with_reducible assumption) _) _⟩) | (with_reducible refine Row.other ?_ (by first | omega | (simp; done) | (simp; omega)) _)))
      have c_x_0_10 := R_x_10.cell 0 rfl
      have c_x_1_10 := R_x_10.cell 1 rfl
      have c_x_2_10 := R_x_10.cell 2 rfl
      have c_x_3_10 := R_x_10.cell 3 rfl
      have c_x_4_10 := R_x_10.cell 4 rfl
      have c_x_5_10 := R_x_10.cell 5 rfl
      have c_x_6_10 := R_x_10.cell 6 rfl
      have c_x_7_10 := R_x_10.cell 7 rfl
      have c_x_8_10 := R_x_10.cell 8 rfl
      have c_x_9_10 := R_x_10.cell 9 rfl
      have l_x_10 := R_x_10.lt
      have R_y_10 : Row w10 (w8.heap.size) [.int .i64 B.id, .int .i64 B.kind, .int .i64 B.rooms, .int .i64 B.fr, .int .i64 B.un, .slice ca cn cc, .int .i64 B.pn, .int .i64 B.pd, .int .i64 B.fee, .slice (some ⟨g2, 0, none⟩) pm cp] := by (repeat' (first | (with_reducible assumption) | (with_reducible refine Row.new' _ _ _ (by first | rfl | (simp; done) | omega)) | (with_reducible refine Row.alloc ?_ _) | (with_reducible refine Row.drew ?_) | (with_reducible refine Row.drewN ?_ _) | (with_reducible refine Row.step ?_ (by with_reducible assumption)) | (with_reducible refine Row.set2' ?_ _ _; first | exact ⟨_, _, by with_reducible assumption⟩ | exact ⟨_, _, Row.alloc (by with_reducible assumption) _⟩ | exact ⟨_, _, Row.alloc (Row.alloc (by with_reducible assumption) _) _⟩) | (with_reducible refine Row.other ?_ (by first | omega | (simp; done) | (simp; omega)) _)))
      have c_y_0_10 := R_y_10.cell 0 rfl
      have c_y_1_10 := R_y_10.cell 1 rfl
      have c_y_2_10 := R_y_10.cell 2 rfl
      have c_y_3_10 := R_y_10.cell 3 rfl
      have c_y_4_10 := R_y_10.cell 4 rfl
      have c_y_5_10 := R_y_10.cell 5 rfl
      have c_y_6_10 := R_y_10.cell 6 rfl
      have c_y_7_10 := R_y_10.cell 7 rfl
      have c_y_8_10 := R_y_10.cell 8 rfl
      have c_y_9_10 := R_y_10.cell 9 rfl
      have l_y_10 := R_y_10.lt
      replace K := K.step (show Below w9.heap.size w9 w10 by (repeat' (first | (with_reducible exact Below.refl _ _) | (with_reducible assumption) | (with_reducible exact Bw.out (by with_reducible assumption)) | (with_reducible refine bw_alloc ?_ _) | (with_reducible refine bw_step ?_ (by with_reducible assumption)) | (with_reducible refine Below.alloc ?_ ?_ _) | (with_reducible refine Below.drew ?_) | (with_reducible refine below_drewN ?_ _) | (with_reducible refine Below.setCell ?_ ?_ _) | (with_reducible refine below_step ?_ (by with_reducible assumption) ?_) | (with_reducible exact Nat.le_refl _) | omega | (simp; omega) | (simp; done))))
      replace K1 := K1.step (show Below w9.heap.size w9 w10 by (repeat' (first | (with_reducible exact Below.refl _ _) | (with_reducible assumption) | (with_reducible exact Bw.out (by with_reducible assumption)) | (with_reducible refine bw_alloc ?_ _) | (with_reducible refine bw_step ?_ (by with_reducible assumption)) | (with_reducible refine Below.alloc ?_ ?_ _) | (with_reducible refine Below.drew ?_) | (with_reducible refine below_drewN ?_ _) | (with_reducible refine Below.setCell ?_ ?_ _) | (with_reducible refine below_step ?_ (by with_reducible assumption) ?_) | (with_reducible exact Nat.le_refl _) | omega | (simp; omega) | (simp; done))))
      replace K2 := K2.step (show Below w9.heap.size w9 w10 by (repeat' (first | (with_reducible exact Below.refl _ _) | (with_reducible assumption) | (with_reducible exact Bw.out (by with_reducible assumption)) | (with_reducible refine bw_alloc ?_ _) | (with_reducible refine bw_step ?_ (by with_reducible assumption)) | (with_reducible refine Below.alloc ?_ ?_ _) | (with_reducible refine Below.drew ?_) | (with_reducible refine below_drewN ?_ _) | (with_reducible refine Below.setCell ?_ ?_ _) | (with_reducible refine below_step ?_ (by with_reducible assumption) ?_) | (with_reducible exact Nat.le_refl _) | omega | (simp; omega) | (simp; done))))
      have HB10 : Below w.heap.size w w10 := by (repeat' (first | (with_reducible exact Below.refl _ _) | (with_reducible assumption) | (with_reducible exact Bw.out (by with_reducible assumption)) | (with_reducible refine bw_alloc ?_ _) | (with_reducible refine bw_step ?_ (by with_reducible assumption)) | (with_reducible refine Below.alloc ?_ ?_ _) | (with_reducible refine Below.drew ?_) | (with_reducible refine below_drewN ?_ _) | (with_reducible refine Below.setCell ?_ ?_ _) | (with_reducible refine below_step ?_ (by with_reducible assumption) ?_) | (with_reducible exact Nat.le_refl _) | omega | (simp; omega) | (simp; done)))
      clear R_b_9 c_b_0_9 c_b_1_9 c_b_2_9 c_b_3_9 c_b_4_9 c_b_5_9 c_b_6_9 c_b_7_9 c_b_8_9 c_b_9_9 R_s_9 c_s_0_9 c_s_1_9 R_x_9 c_x_0_9 c_x_1_9 c_x_2_9 c_x_3_9 c_x_4_9 c_x_5_9 c_x_6_9 c_x_7_9 c_x_8_9 c_x_9_9 R_y_9 c_y_0_9 c_y_1_9 c_y_2_9 c_y_3_9 c_y_4_9 c_y_5_9 c_y_6_9 c_y_7_9 c_y_8_9 c_y_9_9 hb9 HB9
      go_wp2_with fail
      refine (r_Fee_any B _ _ _ _ _ _ _ (K.step (by (repeat' (first | (with_reducible exact Below.refl _ _) | (with_reducible assumption) | (with_reducible exact Bw.out (by with_reducible assumption)) | (with_reducible refine bw_alloc ?_ _) | (with_reducible refine bw_step ?_ (by with_reducible assumption)) | (with_reducible refine Below.alloc ?_ ?_ _) | (with_reducible refine Below.drew ?_) | (with_reducible refine below_drewN ?_ _) | (with_reducible refine Below.setCell ?_ ?_ _) | (with_reducible refine below_step ?_ (by with_reducible assumption) ?_) | (with_reducible exact Nat.le_refl _) | omega | (simp; omega) | (simp; done))))) FV FE HFV.out HFE.out).mono ?_
      rintro e w11 ⟨rfl, hb11⟩
      have R_b_11 : Row w11 (w.heap.size) [.int .i64 B.id, .int .i64 B.kind, .int .i64 B.rooms, .int .i64 B.fr, .int .i64 B.un, .slice ca cn cc, .int .i64 B.pn, .int .i64 B.pd, .int .i64 B.fee, .slice pa pm pc] := by (repeat' (first | (with_reducible assumption) | (with_reducible refine Row.new' _ _ _ (by first | rfl | (simp; done) | omega)) | (with_reducible refine Row.alloc ?_ _) | (with_reducible refine Row.drew ?_) | (with_reducible refine Row.drewN ?_ _) | (with_reducible refine Row.step ?_ (by with_reducible assumption)) | (with_reducible refine Row.set2' ?_ _ _; first | exact ⟨_, _, by with_reducible assumption⟩ | exact ⟨_, _, Row.alloc (by with_reducible assumption) _⟩ | exact ⟨_, _, Row.alloc (Row.alloc (by with_reducible assumption) _) _⟩) | (with_reducible refine Row.other ?_ (by first | omega | (simp; done) | (simp; omega)) _)))
      have c_b_0_11 := R_b_11.cell 0 rfl
      have c_b_1_11 := R_b_11.cell 1 rfl
      have c_b_2_11 := R_b_11.cell 2 rfl
      have c_b_3_11 := R_b_11.cell 3 rfl
      have c_b_4_11 := R_b_11.cell 4 rfl
      have c_b_5_11 := R_b_11.cell 5 rfl
      have c_b_6_11 := R_b_11.cell 6 rfl
      have c_b_7_11 := R_b_11.cell 7 rfl
      have c_b_8_11 := R_b_11.cell 8 rfl
      have c_b_9_11 := R_b_11.cell 9 rfl
      have l_b_11 := R_b_11.lt
      have R_s_11 : Row w11 (w.heap.size + 1) [.int .i64 (s0), .int .i64 (s1)] := by (repeat' (first | (with_reducible assumption) | (with_reducible refine Row.new' _ _ _ (by first | rfl | (simp; done) | omega)) | (with_reducible refine Row.alloc ?_ _) | (with_reducible refine Row.drew ?_) | (with_reducible refine Row.drewN ?_ _) | (with_reducible refine Row.step ?_ (by with_reducible assumption)) | (with_reducible refine Row.set2' ?_ _ _; first | exact ⟨_, _, by with_reducible assumption⟩ | exact ⟨_, _, Row.alloc (by with_reducible assumption) _⟩ | exact ⟨_, _, Row.alloc (Row.alloc (by with_reducible assumption) _) _⟩) | (with_reducible refine Row.other ?_ (by first | omega | (simp; done) | (simp; omega)) _)))
      have c_s_0_11 := R_s_11.cell 0 rfl
      have c_s_1_11 := R_s_11.cell 1 rfl
      have l_s_11 := R_s_11.lt
      have R_x_11 : Row w11 (w7.heap.size) [.int .i64 B.id, .int .i64 B.kind, .int .i64 B.rooms, .int .i64 B.fr, .int .i64 B.un, .slice ca cn cc, .int .i64 B.pn, .int .i64 B.pd, .int .i64 B.fee, .slice (some ⟨g1, 0, none⟩) pm pm] := by (repeat' (first | (with_reducible assumption) | (with_reducible refine Row.new' _ _ _ (by first | rfl | (simp; done) | omega)) | (with_reducible refine Row.alloc ?_ _) | (with_reducible refine Row.drew ?_) | (with_reducible refine Row.drewN ?_ _) | (with_reducible refine Row.step ?_ (by with_reducible assumption)) | (with_reducible refine Row.set2' ?_ _ _; first | exact ⟨_, _, by with_reducible assumption⟩ | exact ⟨_, _, Row.alloc (by with_reducible assumption) _⟩ | exact ⟨_, _, Row.alloc (Row.alloc (by with_reducible assumption) _) _⟩) | (with_reducible refine Row.other ?_ (by first | omega | (simp; done) | (simp; omega)) _)))
      have c_x_0_11 := R_x_11.cell 0 rfl
      have c_x_1_11 := R_x_11.cell 1 rfl
      have c_x_2_11 := R_x_11.cell 2 rfl
      have c_x_3_11 := R_x_11.cell 3 rfl
      have c_x_4_11 := R_x_11.cell 4 rfl
      have c_x_5_11 := R_x_11.cell 5 rfl
      have c_x_6_11 := R_x_11.cell 6 rfl
      have c_x_7_11 := R_x_11.cell 7 rfl
      have c_x_8_11 := R_x_11.cell 8 rfl
      have c_x_9_11 := R_x_11.cell 9 rfl
      have l_x_11 := R_x_11.lt
      have R_y_11 : Row w11 (w8.heap.size) [.int .i64 B.id, .int .i64 B.kind, .int .i64 B.rooms, .int .i64 B.fr, .int .i64 B.un, .slice ca cn cc, .int .i64 B.pn, .int .i64 B.pd, .int .i64 B.fee, .slice (some ⟨g2, 0, none⟩) pm cp] := by (repeat' (first | (with_reducible assumption) | (with_reducible refine Row.new' _ _ _ (by first | rfl | (simp; done) | omega)) | (with_reducible refine Row.alloc ?_ _) | (with_reducible refine Row.drew ?_) | (with_reducible refine Row.drewN ?_ _) | (with_reducible refine Row.step ?_ (by with_reducible assumption)) | (with_reducible refine Row.set2' ?_ _ _; first | exact ⟨_, _, by with_reducible assumption⟩ | exact ⟨_, _, Row.alloc (by with_reducible assumption) _⟩ | exact ⟨_, _, Row.alloc (Row.alloc (by with_reducible assumption) _) _⟩) | (with_reducible refine Row.other ?_ (by first | omega | (simp; done) | (simp; omega)) _)))
      have c_y_0_11 := R_y_11.cell 0 rfl
      have c_y_1_11 := R_y_11.cell 1 rfl
      have c_y_2_11 := R_y_11.cell 2 rfl
      have c_y_3_11 := R_y_11.cell 3 rfl
      have c_y_4_11 := R_y_11.cell 4 rfl
      have c_y_5_11 := R_y_11.cell 5 rfl
      have c_y_6_11 := R_y_11.cell 6 rfl
      have c_y_7_11 := R_y_11.cell 7 rfl
      have c_y_8_11 := R_y_11.cell 8 rfl
      have c_y_9_11 := R_y_11.cell 9 rfl
      have l_y_11 := R_y_11.lt
      replace K := K.step (show Below w10.heap.size w10 w11 by (repeat' (first | (with_reducible exact Below.refl _ _) | (with_reducible assumption) | (with_reducible exact Bw.out (by with_reducible assumption)) | (with_reducible refine bw_alloc ?_ _) | (with_reducible refine bw_step ?_ (by with_reducible assumption)) | (with_reducible refine Below.alloc ?_ ?_ _) | (with_reducible refine Below.drew ?_) | (with_reducible refine below_drewN ?_ _) | (with_reducible refine Below.setCell ?_ ?_ _) | (with_reducible refine below_step ?_ (by with_reducible assumption) ?_) | (with_reducible exact Nat.le_refl _) | omega | (simp; omega) | (simp; done))))
      replace K1 := K1.step (show Below w10.heap.size w10 w11 by (repeat' (first | (with_reducible exact Below.refl _ _) | (with_reducible assumption) | (with_reducible exact Bw.out (by with_reducible assumption)) | (with_reducible refine bw_alloc ?_ _) | (with_reducible refine bw_step ?_ (by with_reducible assumption)) | (with_reducible refine Below.alloc ?_ ?_ _) | (with_reducible refine Below.drew ?_) | (with_reducible refine below_drewN ?_ _) | (with_reducible refine Below.setCell ?_ ?_ _) | (with_reducible refine below_step ?_ (by with_reducible assumption) ?_) | (with_reducible exact Nat.le_refl _) | omega | (simp; omega) | (simp; done))))
      replace K2 := K2.step (show Below w10.heap.size w10 w11 by (repeat' (first | (with_reducible exact Below.refl _ _) | (with_reducible assumption) | (with_reducible exact Bw.out (by with_reducible assumption)) | (with_reducible refine bw_alloc ?_ _) | (with_reducible refine bw_step ?_ (by with_reducible assumption)) | (with_reducible refine Below.alloc ?_ ?_ _) | (with_reducible refine Below.drew ?_) | (with_reducible refine below_drewN ?_ _) | (with_reducible refine Below.setCell ?_ ?_ _) | (with_reducible refine below_step ?_ (by with_reducible assumption) ?_) | (with_reducible exact Nat.le_refl _) | omega | (simp; omega) | (simp; done))))
      have HB11 : Below w.heap.size w w11 := by (repeat' (first | (with_reducible exact Below.refl _ _) | (with_reducible assumption) | (with_reducible exact Bw.out (by with_reducible assumption)) | (with_reducible refine bw_alloc ?_ _) | (with_reducible refine bw_step ?_ (by with_reducible assumption)) | (with_reducible refine Below.alloc ?_ ?_ _) | (with_reducible refine Below.drew ?_) | (with_reducible refine below_drewN ?_ _) | (with_reducible refine Below.setCell ?_ ?_ _) | (with_reducible refine below_step ?_ (by with_reducible assumption) ?_) | (with_reducible exact Nat.le_refl _) | omega | (simp; omega) | (simp; done)))
      clear R_b_10 c_b_0_10 c_b_1_10 c_b_2_10 c_b_3_10 c_b_4_10 c_b_5_10 c_b_6_10 c_b_7_10 c_b_8_10 c_b_9_10 R_s_10 c_s_0_10 c_s_1_10 R_x_10 c_x_0_10 c_x_1_10 c_x_2_10 c_x_3_10 c_x_4_10 c_x_5_10 c_x_6_10 c_x_7_10 c_x_8_10 c_x_9_10 R_y_10 c_y_0_10 c_y_1_10 c_y_2_10 c_y_3_10 c_y_4_10 c_y_5_10 c_y_6_10 c_y_7_10 c_y_8_10 c_y_9_10 hb10 HB10
      go_wp2_with fail
      go_ret
      refine ⟨(by first | rfl | exact ret_bool (by first | rfl | (simp; done) | (simp; omega))), ?_⟩
      (repeat' (first | (with_reducible exact Below.refl _ _) | (with_reducible assumption) | (with_reducible exact Bw.out (by with_reducible assumption)) | (with_reducible refine bw_alloc ?_ _) | (with_reducible refine bw_step ?_ (by with_reducible assumption)) | (with_reducible refine Below.alloc ?_ ?_ _) | (with_reducible refine Below.drew ?_) | (with_reducible refine below_drewN ?_ _) | (with_reducible refine Below.setCell ?_ ?_ _) | (with_reducible refine below_step ?_ (by with_reducible assumption) ?_) | (with_reducible exact Nat.le_refl _) | omega | (simp; omega) | (simp; done)))
    · clear hPE
      go_enter Try.func3, Try.ntmps3
      go_wp2_with fail
      refine (head_any _).mono ?_
      rintro e w1 ⟨rfl, hb1⟩
      have R_b_1 : Row w1 (w.heap.size) [.int .i64 B.id, .int .i64 B.kind, .int .i64 B.rooms, .int .i64 B.fr, .int .i64 B.un, .slice ca cn cc, .int .i64 B.pn, .int .i64 B.pd, .int .i64 B.fee, .slice pa pm pc] := by (repeat' (first | (with_reducible assumption) | (with_reducible refine Row.new' _ _ _ (by first | rfl | (simp; done) | omega)) | (with_reducible refine Row.alloc ?_ _) | (with_reducible refine Row.drew ?_) | (with_reducible refine Row.drewN ?_ _) | (with_reducible refine Row.step ?_ (by with_reducible assumption)) | (with_reducible refine Row.set2' ?_ _ _; first | exact ⟨_, _, by with_reducible assumption⟩ | exact ⟨_, _, Row.alloc (by with_reducible assumption) _⟩ | exact ⟨_, _, Row.alloc (Row.alloc (by with_reducible assumption) _) _⟩) | (with_reducible refine Row.other ?_ (by first | omega | (simp; done) | (simp; omega)) _)))
      have c_b_0_1 := R_b_1.cell 0 rfl
      have c_b_1_1 := R_b_1.cell 1 rfl
      have c_b_2_1 := R_b_1.cell 2 rfl
      have c_b_3_1 := R_b_1.cell 3 rfl
      have c_b_4_1 := R_b_1.cell 4 rfl
      have c_b_5_1 := R_b_1.cell 5 rfl
      have c_b_6_1 := R_b_1.cell 6 rfl
      have c_b_7_1 := R_b_1.cell 7 rfl
      have c_b_8_1 := R_b_1.cell 8 rfl
      have c_b_9_1 := R_b_1.cell 9 rfl
      have l_b_1 := R_b_1.lt
      have R_s_1 : Row w1 (w.heap.size + 1) [.int .i64 (s0), .int .i64 (s1)] := by (repeat' (first | (with_reducible assumption) | (with_reducible refine Row.new' _ _ _ (by first | rfl | (simp; done) | omega)) | (with_reducible refine Row.alloc ?_ _) | (with_reducible refine Row.drew ?_) | (with_reducible refine Row.drewN ?_ _) | (with_reducible refine Row.step ?_ (by with_reducible assumption)) | (with_reducible refine Row.set2' ?_ _ _; first | exact ⟨_, _, by with_reducible assumption⟩ | exact ⟨_, _, Row.alloc (by with_reducible assumption) _⟩ | exact ⟨_, _, Row.alloc (Row.alloc (by with_reducible assumption) _) _⟩) | (with_reducible refine Row.other ?_ (by first | omega | (simp; done) | (simp; omega)) _)))
      have c_s_0_1 := R_s_1.cell 0 rfl
      have c_s_1_1 := R_s_1.cell 1 rfl
      have l_s_1 := R_s_1.lt
      replace K := K.step (show Below w.heap.size w w1 by (repeat' (first | (with_reducible exact Below.refl _ _) | (with_reducible assumption) | (with_reducible exact Bw.out (by with_reducible assumption)) | (with_reducible refine bw_alloc ?_ _) | (with_reducible refine bw_step ?_ (by with_reducible assumption)) | (with_reducible refine Below.alloc ?_ ?_ _) | (with_reducible refine Below.drew ?_) | (with_reducible refine below_drewN ?_ _) | (with_reducible refine Below.setCell ?_ ?_ _) | (with_reducible refine below_step ?_ (by with_reducible assumption) ?_) | (with_reducible exact Nat.le_refl _) | omega | (simp; omega) | (simp; done))))
      have HB1 : Below w.heap.size w w1 := by (repeat' (first | (with_reducible exact Below.refl _ _) | (with_reducible assumption) | (with_reducible exact Bw.out (by with_reducible assumption)) | (with_reducible refine bw_alloc ?_ _) | (with_reducible refine bw_step ?_ (by with_reducible assumption)) | (with_reducible refine Below.alloc ?_ ?_ _) | (with_reducible refine Below.drew ?_) | (with_reducible refine below_drewN ?_ _) | (with_reducible refine Below.setCell ?_ ?_ _) | (with_reducible refine below_step ?_ (by with_reducible assumption) ?_) | (with_reducible exact Nat.le_refl _) | omega | (simp; omega) | (simp; done)))
      go_wp2_with fail
      refine (r_few B ca cn cc pa pm pc true _ HF.out).mono ?_
      rintro e w2 ⟨rfl, hb2⟩
      have R_b_2 : Row w2 (w.heap.size) [.int .i64 B.id, .int .i64 B.kind, .int .i64 B.rooms, .int .i64 B.fr, .int .i64 B.un, .slice ca cn cc, .int .i64 B.pn, .int .i64 B.pd, .int .i64 B.fee, .slice pa pm pc] := by (repeat' (first | (with_reducible assumption) | (with_reducible refine Row.new' _ _ _ (by first | rfl | (simp; done) | omega)) | (with_reducible refine Row.alloc ?_ _) | (with_reducible refine Row.drew ?_) | (with_reducible refine Row.drewN ?_ _) | (with_reducible refine Row.step ?_ (by with_reducible assumption)) | (with_reducible refine Row.set2' ?_ _ _; first | exact ⟨_, _, by with_reducible assumption⟩ | exact ⟨_, _, Row.alloc (by with_reducible assumption) _⟩ | exact ⟨_, _, Row.alloc (Row.alloc (by with_reducible assumption) _) _⟩) | (with_reducible refine Row.other ?_ (by first | omega | (simp; done) | (simp; omega)) _)))
      have c_b_0_2 := R_b_2.cell 0 rfl
      have c_b_1_2 := R_b_2.cell 1 rfl
      have c_b_2_2 := R_b_2.cell 2 rfl
      have c_b_3_2 := R_b_2.cell 3 rfl
      have c_b_4_2 := R_b_2.cell 4 rfl
      have c_b_5_2 := R_b_2.cell 5 rfl
      have c_b_6_2 := R_b_2.cell 6 rfl
      have c_b_7_2 := R_b_2.cell 7 rfl
      have c_b_8_2 := R_b_2.cell 8 rfl
      have c_b_9_2 := R_b_2.cell 9 rfl
      have l_b_2 := R_b_2.lt
      have R_s_2 : Row w2 (w.heap.size + 1) [.int .i64 (s0), .int .i64 (s1)] := by (repeat' (first | (with_reducible assumption) | (with_reducible refine Row.new' _ _ _ (by first | rfl | (simp; done) | omega)) | (with_reducible refine Row.alloc ?_ _) | (with_reducible refine Row.drew ?_) | (with_reducible refine Row.drewN ?_ _) | (with_reducible refine Row.step ?_ (by with_reducible assumption)) | (with_reducible refine Row.set2' ?_ _ _; first | exact ⟨_, _, by with_reducible assumption⟩ | exact ⟨_, _, Row.alloc (by with_reducible assumption) _⟩ | exact ⟨_, _, Row.alloc (Row.alloc (by with_reducible assumption) _) _⟩) | (with_reducible refine Row.other ?_ (by first | omega | (simp; done) | (simp; omega)) _)))
      have c_s_0_2 := R_s_2.cell 0 rfl
      have c_s_1_2 := R_s_2.cell 1 rfl
      have l_s_2 := R_s_2.lt
      replace K := K.step (show Below w1.heap.size w1 w2 by (repeat' (first | (with_reducible exact Below.refl _ _) | (with_reducible assumption) | (with_reducible exact Bw.out (by with_reducible assumption)) | (with_reducible refine bw_alloc ?_ _) | (with_reducible refine bw_step ?_ (by with_reducible assumption)) | (with_reducible refine Below.alloc ?_ ?_ _) | (with_reducible refine Below.drew ?_) | (with_reducible refine below_drewN ?_ _) | (with_reducible refine Below.setCell ?_ ?_ _) | (with_reducible refine below_step ?_ (by with_reducible assumption) ?_) | (with_reducible exact Nat.le_refl _) | omega | (simp; omega) | (simp; done))))
      have HB2 : Below w.heap.size w w2 := by (repeat' (first | (with_reducible exact Below.refl _ _) | (with_reducible assumption) | (with_reducible exact Bw.out (by with_reducible assumption)) | (with_reducible refine bw_alloc ?_ _) | (with_reducible refine bw_step ?_ (by with_reducible assumption)) | (with_reducible refine Below.alloc ?_ ?_ _) | (with_reducible refine Below.drew ?_) | (with_reducible refine below_drewN ?_ _) | (with_reducible refine Below.setCell ?_ ?_ _) | (with_reducible refine below_step ?_ (by with_reducible assumption) ?_) | (with_reducible exact Nat.le_refl _) | omega | (simp; omega) | (simp; done)))
      clear R_b_1 c_b_0_1 c_b_1_1 c_b_2_1 c_b_3_1 c_b_4_1 c_b_5_1 c_b_6_1 c_b_7_1 c_b_8_1 c_b_9_1 R_s_1 c_s_0_1 c_s_1_1 hb1 HB1
      go_wp2_with fail
      refine (g_Held_any B day n _ _ _ _ _ _ _ (K.step (by (repeat' (first | (with_reducible exact Below.refl _ _) | (with_reducible assumption) | (with_reducible exact Bw.out (by with_reducible assumption)) | (with_reducible refine bw_alloc ?_ _) | (with_reducible refine bw_step ?_ (by with_reducible assumption)) | (with_reducible refine Below.alloc ?_ ?_ _) | (with_reducible refine Below.drew ?_) | (with_reducible refine below_drewN ?_ _) | (with_reducible refine Below.setCell ?_ ?_ _) | (with_reducible refine below_step ?_ (by with_reducible assumption) ?_) | (with_reducible exact Nat.le_refl _) | omega | (simp; omega) | (simp; done))))) V E HV.out HE.out).mono ?_
      rintro e w3 ⟨rfl, hb3⟩
      have R_b_3 : Row w3 (w.heap.size) [.int .i64 B.id, .int .i64 B.kind, .int .i64 B.rooms, .int .i64 B.fr, .int .i64 B.un, .slice ca cn cc, .int .i64 B.pn, .int .i64 B.pd, .int .i64 B.fee, .slice pa pm pc] := by (repeat' (first | (with_reducible assumption) | (with_reducible refine Row.new' _ _ _ (by first | rfl | (simp; done) | omega)) | (with_reducible refine Row.alloc ?_ _) | (with_reducible refine Row.drew ?_) | (with_reducible refine Row.drewN ?_ _) | (with_reducible refine Row.step ?_ (by with_reducible assumption)) | (with_reducible refine Row.set2' ?_ _ _; first | exact ⟨_, _, by with_reducible assumption⟩ | exact ⟨_, _, Row.alloc (by with_reducible assumption) _⟩ | exact ⟨_, _, Row.alloc (Row.alloc (by with_reducible assumption) _) _⟩) | (with_reducible refine Row.other ?_ (by first | omega | (simp; done) | (simp; omega)) _)))
      have c_b_0_3 := R_b_3.cell 0 rfl
      have c_b_1_3 := R_b_3.cell 1 rfl
      have c_b_2_3 := R_b_3.cell 2 rfl
      have c_b_3_3 := R_b_3.cell 3 rfl
      have c_b_4_3 := R_b_3.cell 4 rfl
      have c_b_5_3 := R_b_3.cell 5 rfl
      have c_b_6_3 := R_b_3.cell 6 rfl
      have c_b_7_3 := R_b_3.cell 7 rfl
      have c_b_8_3 := R_b_3.cell 8 rfl
      have c_b_9_3 := R_b_3.cell 9 rfl
      have l_b_3 := R_b_3.lt
      have R_s_3 : Row w3 (w.heap.size + 1) [.int .i64 (s0), .int .i64 (s1)] := by (repeat' (first | (with_reducible assumption) | (with_reducible refine Row.new' _ _ _ (by first | rfl | (simp; done) | omega)) | (with_reducible refine Row.alloc ?_ _) | (with_reducible refine Row.drew ?_) | (with_reducible refine Row.drewN ?_ _) | (with_reducible refine Row.step ?_ (by with_reducible assumption)) | (with_reducible refine Row.set2' ?_ _ _; first | exact ⟨_, _, by with_reducible assumption⟩ | exact ⟨_, _, Row.alloc (by with_reducible assumption) _⟩ | exact ⟨_, _, Row.alloc (Row.alloc (by with_reducible assumption) _) _⟩) | (with_reducible refine Row.other ?_ (by first | omega | (simp; done) | (simp; omega)) _)))
      have c_s_0_3 := R_s_3.cell 0 rfl
      have c_s_1_3 := R_s_3.cell 1 rfl
      have l_s_3 := R_s_3.lt
      replace K := K.step (show Below w2.heap.size w2 w3 by (repeat' (first | (with_reducible exact Below.refl _ _) | (with_reducible assumption) | (with_reducible exact Bw.out (by with_reducible assumption)) | (with_reducible refine bw_alloc ?_ _) | (with_reducible refine bw_step ?_ (by with_reducible assumption)) | (with_reducible refine Below.alloc ?_ ?_ _) | (with_reducible refine Below.drew ?_) | (with_reducible refine below_drewN ?_ _) | (with_reducible refine Below.setCell ?_ ?_ _) | (with_reducible refine below_step ?_ (by with_reducible assumption) ?_) | (with_reducible exact Nat.le_refl _) | omega | (simp; omega) | (simp; done))))
      have HB3 : Below w.heap.size w w3 := by (repeat' (first | (with_reducible exact Below.refl _ _) | (with_reducible assumption) | (with_reducible exact Bw.out (by with_reducible assumption)) | (with_reducible refine bw_alloc ?_ _) | (with_reducible refine bw_step ?_ (by with_reducible assumption)) | (with_reducible refine Below.alloc ?_ ?_ _) | (with_reducible refine Below.drew ?_) | (with_reducible refine below_drewN ?_ _) | (with_reducible refine Below.setCell ?_ ?_ _) | (with_reducible refine below_step ?_ (by with_reducible assumption) ?_) | (with_reducible exact Nat.le_refl _) | omega | (simp; omega) | (simp; done)))
      clear R_b_2 c_b_0_2 c_b_1_2 c_b_2_2 c_b_3_2 c_b_4_2 c_b_5_2 c_b_6_2 c_b_7_2 c_b_8_2 c_b_9_2 R_s_2 c_s_0_2 c_s_1_2 hb2 HB2
      go_wp2_with fail
      refine (r_Held_any B day n _ _ _ _ _ _ _ (K.step (by (repeat' (first | (with_reducible exact Below.refl _ _) | (with_reducible assumption) | (with_reducible exact Bw.out (by with_reducible assumption)) | (with_reducible refine bw_alloc ?_ _) | (with_reducible refine bw_step ?_ (by with_reducible assumption)) | (with_reducible refine Below.alloc ?_ ?_ _) | (with_reducible refine Below.drew ?_) | (with_reducible refine below_drewN ?_ _) | (with_reducible refine Below.setCell ?_ ?_ _) | (with_reducible refine below_step ?_ (by with_reducible assumption) ?_) | (with_reducible exact Nat.le_refl _) | omega | (simp; omega) | (simp; done))))) V E HV.out HE.out).mono ?_
      rintro e w4 ⟨rfl, hb4⟩
      have R_b_4 : Row w4 (w.heap.size) [.int .i64 B.id, .int .i64 B.kind, .int .i64 B.rooms, .int .i64 B.fr, .int .i64 B.un, .slice ca cn cc, .int .i64 B.pn, .int .i64 B.pd, .int .i64 B.fee, .slice pa pm pc] := by (repeat' (first | (with_reducible assumption) | (with_reducible refine Row.new' _ _ _ (by first | rfl | (simp; done) | omega)) | (with_reducible refine Row.alloc ?_ _) | (with_reducible refine Row.drew ?_) | (with_reducible refine Row.drewN ?_ _) | (with_reducible refine Row.step ?_ (by with_reducible assumption)) | (with_reducible refine Row.set2' ?_ _ _; first | exact ⟨_, _, by with_reducible assumption⟩ | exact ⟨_, _, Row.alloc (by with_reducible assumption) _⟩ | exact ⟨_, _, Row.alloc (Row.alloc (by with_reducible assumption) _) _⟩) | (with_reducible refine Row.other ?_ (by first | omega | (simp; done) | (simp; omega)) _)))
      have c_b_0_4 := R_b_4.cell 0 rfl
      have c_b_1_4 := R_b_4.cell 1 rfl
      have c_b_2_4 := R_b_4.cell 2 rfl
      have c_b_3_4 := R_b_4.cell 3 rfl
      have c_b_4_4 := R_b_4.cell 4 rfl
      have c_b_5_4 := R_b_4.cell 5 rfl
      have c_b_6_4 := R_b_4.cell 6 rfl
      have c_b_7_4 := R_b_4.cell 7 rfl
      have c_b_8_4 := R_b_4.cell 8 rfl
      have c_b_9_4 := R_b_4.cell 9 rfl
      have l_b_4 := R_b_4.lt
      have R_s_4 : Row w4 (w.heap.size + 1) [.int .i64 (s0), .int .i64 (s1)] := by (repeat' (first | (with_reducible assumption) | (with_reducible refine Row.new' _ _ _ (by first | rfl | (simp; done) | omega)) | (with_reducible refine Row.alloc ?_ _) | (with_reducible refine Row.drew ?_) | (with_reducible refine Row.drewN ?_ _) | (with_reducible refine Row.step ?_ (by with_reducible assumption)) | (with_reducible refine Row.set2' ?_ _ _; first | exact ⟨_, _, by with_reducible assumption⟩ | exact ⟨_, _, Row.alloc (by with_reducible assumption) _⟩ | exact ⟨_, _, Row.alloc (Row.alloc (by with_reducible assumption) _) _⟩) | (with_reducible refine Row.other ?_ (by first | omega | (simp; done) | (simp; omega)) _)))
      have c_s_0_4 := R_s_4.cell 0 rfl
      have c_s_1_4 := R_s_4.cell 1 rfl
      have l_s_4 := R_s_4.lt
      replace K := K.step (show Below w3.heap.size w3 w4 by (repeat' (first | (with_reducible exact Below.refl _ _) | (with_reducible assumption) | (with_reducible exact Bw.out (by with_reducible assumption)) | (with_reducible refine bw_alloc ?_ _) | (with_reducible refine bw_step ?_ (by with_reducible assumption)) | (with_reducible refine Below.alloc ?_ ?_ _) | (with_reducible refine Below.drew ?_) | (with_reducible refine below_drewN ?_ _) | (with_reducible refine Below.setCell ?_ ?_ _) | (with_reducible refine below_step ?_ (by with_reducible assumption) ?_) | (with_reducible exact Nat.le_refl _) | omega | (simp; omega) | (simp; done))))
      have HB4 : Below w.heap.size w w4 := by (repeat' (first | (with_reducible exact Below.refl _ _) | (with_reducible assumption) | (with_reducible exact Bw.out (by with_reducible assumption)) | (with_reducible refine bw_alloc ?_ _) | (with_reducible refine bw_step ?_ (by with_reducible assumption)) | (with_reducible refine Below.alloc ?_ ?_ _) | (with_reducible refine Below.drew ?_) | (with_reducible refine below_drewN ?_ _) | (with_reducible refine Below.setCell ?_ ?_ _) | (with_reducible refine below_step ?_ (by with_reducible assumption) ?_) | (with_reducible exact Nat.le_refl _) | omega | (simp; omega) | (simp; done)))
      clear R_b_3 c_b_0_3 c_b_1_3 c_b_2_3 c_b_3_3 c_b_4_3 c_b_5_3 c_b_6_3 c_b_7_3 c_b_8_3 c_b_9_3 R_s_3 c_s_0_3 c_s_1_3 hb3 HB3
      go_wp2_with fail
      refine AnyJ.beginP (fun w' : World => w'.cell? ⟨w.heap.size, 0, none⟩ = some (.int .i64 B.id) ∧ w'.cell? ⟨w.heap.size, 1, none⟩ = some (.int .i64 B.kind) ∧ w'.cell? ⟨w.heap.size, 2, none⟩ = some (.int .i64 B.rooms) ∧ w'.cell? ⟨w.heap.size, 3, none⟩ = some (.int .i64 B.fr) ∧ w'.cell? ⟨w.heap.size, 4, none⟩ = some (.int .i64 B.un) ∧ w'.cell? ⟨w.heap.size, 5, none⟩ = some (.slice ca cn cc) ∧ w'.cell? ⟨w.heap.size, 6, none⟩ = some (.int .i64 B.pn) ∧ w'.cell? ⟨w.heap.size, 7, none⟩ = some (.int .i64 B.pd) ∧ w'.cell? ⟨w.heap.size, 8, none⟩ = some (.int .i64 B.fee) ∧ w'.cell? ⟨w.heap.size, 9, none⟩ = some (.slice pa pm pc) ∧ w'.cell? ⟨w.heap.size + 1, 0, none⟩ = some (.int .i64 (s0)) ∧ w'.cell? ⟨w.heap.size + 1, 1, none⟩ = some (.int .i64 (s1))) (fun _ => true) (by kernel_rfl) ?_ (fun hS4 => ?_)
      · exact (show ∀ (P S : World → Prop) (W : World), P W → (∀ w', P w' → S w') → S W from fun P S W h f => f W h) (fun w' : World => Row w' (w.heap.size) [.int .i64 B.id, .int .i64 B.kind, .int .i64 B.rooms, .int .i64 B.fr, .int .i64 B.un, .slice ca cn cc, .int .i64 B.pn, .int .i64 B.pd, .int .i64 B.fee, .slice pa pm pc] ∧ Row w' (w.heap.size + 1) [.int .i64 (s0), .int .i64 (s1)]) (fun w' : World => w'.cell? ⟨w.heap.size, 0, none⟩ = some (.int .i64 B.id) ∧ w'.cell? ⟨w.heap.size, 1, none⟩ = some (.int .i64 B.kind) ∧ w'.cell? ⟨w.heap.size, 2, none⟩ = some (.int .i64 B.rooms) ∧ w'.cell? ⟨w.heap.size, 3, none⟩ = some (.int .i64 B.fr) ∧ w'.cell? ⟨w.heap.size, 4, none⟩ = some (.int .i64 B.un) ∧ w'.cell? ⟨w.heap.size, 5, none⟩ = some (.slice ca cn cc) ∧ w'.cell? ⟨w.heap.size, 6, none⟩ = some (.int .i64 B.pn) ∧ w'.cell? ⟨w.heap.size, 7, none⟩ = some (.int .i64 B.pd) ∧ w'.cell? ⟨w.heap.size, 8, none⟩ = some (.int .i64 B.fee) ∧ w'.cell? ⟨w.heap.size, 9, none⟩ = some (.slice pa pm pc) ∧ w'.cell? ⟨w.heap.size + 1, 0, none⟩ = some (.int .i64 (s0)) ∧ w'.cell? ⟨w.heap.size + 1, 1, none⟩ = some (.int .i64 (s1))) _ (⟨by (repeat' (first | (with_reducible assumption) | (with_reducible refine Row.new' _ _ _ (by first | rfl | (simp; done) | omega)) | (with_reducible refine Row.alloc ?_ _) | (with_reducible refine Row.drew ?_) | (with_reducible refine Row.drewN ?_ _) | (with_reducible refine Row.step ?_ (by with_reducible assumption)) | (with_reducible refine Row.set2' ?_ _ _; first | exact ⟨_, _, by with_reducible assumption⟩ | exact ⟨_, _, Row.alloc (by with_reducible assumption) _⟩ | exact ⟨_, _, Row.alloc (Row.alloc (by with_reducible assumption) _) _⟩) | (with_reducible refine Row.other ?_ (by first | omega | (simp; done) | (simp; omega)) _))), by (repeat' (first | (with_reducible assumption) | (with_reducible refine Row.new' _ _ _ (by first | rfl | (simp; done) | omega)) | (with_reducible refine Row.alloc ?_ _) | (with_reducible refine Row.drew ?_) | (with_reducible refine Row.drewN ?_ _) | (with_reducible refine Row.step ?_ (by with_reducible assumption)) | (with_reducible refine Row.set2' ?_ _ _; first | exact ⟨_, _, by with_reducible assumption⟩ | exact ⟨_, _, Row.alloc (by with_reducible assumption) _⟩ | exact ⟨_, _, Row.alloc (Row.alloc (by with_reducible assumption) _) _⟩) | (with_reducible refine Row.other ?_ (by first | omega | (simp; done) | (simp; omega)) _)))⟩) (fun w' ⟨hP0, hP1⟩ => ⟨hP0.cell 0 rfl, hP0.cell 1 rfl, hP0.cell 2 rfl, hP0.cell 3 rfl, hP0.cell 4 rfl, hP0.cell 5 rfl, hP0.cell 6 rfl, hP0.cell 7 rfl, hP0.cell 8 rfl, hP0.cell 9 rfl, hP1.cell 0 rfl, hP1.cell 1 rfl⟩)
      refine AnyJ.takeD (i := 0) (d := some 35) (v := ?_) rfl (by kernel_rfl) (by kernel_rfl) (by kernel_rfl) (by kernel_rfl) (by kernel_rfl) (fun _ _ _ h => h) (Or.inl ⟨by kernel_rfl, ?_⟩) hS4 ?_
      rotate_left
      · intro w' hS
        clear hS
        go_simp
        try with_reducible rfl
      refine AnyJ.takeD (i := 1) (d := some 36) (v := ?_) rfl (by kernel_rfl) (by kernel_rfl) (by kernel_rfl) (by kernel_rfl) (by kernel_rfl) (fun _ _ _ h => h) (Or.inl ⟨by kernel_rfl, ?_⟩) hS4 ?_
      rotate_left
      · intro w' hS
        clear hS
        go_simp
        try with_reducible rfl
      refine AnyJ.takeD (i := 2) (d := some 37) (v := ?_) rfl (by kernel_rfl) (by kernel_rfl) (by kernel_rfl) (by kernel_rfl) (by kernel_rfl) (fun _ _ _ h => h) (Or.inl ⟨by kernel_rfl, ?_⟩) hS4 ?_
      rotate_left
      · intro w' hS
        obtain ⟨sF0, sF1, sF2, sF3, sF4, sF5, sF6, sF7, sF8, sF9, sF10, sF11⟩ := hS
        go_simp
        try with_reducible rfl
      refine AnyJ.takeD (i := 4) (d := some 39) (v := ?_) rfl (by kernel_rfl) (by kernel_rfl) (by kernel_rfl) (by kernel_rfl) (by kernel_rfl) (fun _ _ _ h => h) (Or.inl ⟨by kernel_rfl, ?_⟩) hS4 ?_
      rotate_left
      · intro w' hS
        obtain ⟨sF0, sF1, sF2, sF3, sF4, sF5, sF6, sF7, sF8, sF9, sF10, sF11⟩ := hS
        go_simp
        try with_reducible rfl
      refine AnyJ.one (i := 3) (by kernel_rfl) rfl (fun Kz hKz => ?_)
      go_simp
      refine (g_valid_any B ca cn cc pa pm pc _ (K.step (by (repeat' (first | (with_reducible exact Below.refl _ _) | (with_reducible assumption) | (with_reducible exact Bw.out (by with_reducible assumption)) | (with_reducible refine bw_alloc ?_ _) | (with_reducible refine bw_step ?_ (by with_reducible assumption)) | (with_reducible refine Below.alloc ?_ ?_ _) | (with_reducible refine Below.drew ?_) | (with_reducible refine below_drewN ?_ _) | (with_reducible refine Below.setCell ?_ ?_ _) | (with_reducible refine below_step ?_ (by with_reducible assumption) ?_) | (with_reducible exact Nat.le_refl _) | omega | (simp; omega) | (simp; done))))) vb HVB.out).mono ?_
      rintro e w5 ⟨rfl, hb5⟩
      have R_b_5 : Row w5 (w.heap.size) [.int .i64 B.id, .int .i64 B.kind, .int .i64 B.rooms, .int .i64 B.fr, .int .i64 B.un, .slice ca cn cc, .int .i64 B.pn, .int .i64 B.pd, .int .i64 B.fee, .slice pa pm pc] := by (repeat' (first | (with_reducible assumption) | (with_reducible refine Row.new' _ _ _ (by first | rfl | (simp; done) | omega)) | (with_reducible refine Row.alloc ?_ _) | (with_reducible refine Row.drew ?_) | (with_reducible refine Row.drewN ?_ _) | (with_reducible refine Row.step ?_ (by with_reducible assumption)) | (with_reducible refine Row.set2' ?_ _ _; first | exact ⟨_, _, by with_reducible assumption⟩ | exact ⟨_, _, Row.alloc (by with_reducible assumption) _⟩ | exact ⟨_, _, Row.alloc (Row.alloc (by with_reducible assumption) _) _⟩) | (with_reducible refine Row.other ?_ (by first | omega | (simp; done) | (simp; omega)) _)))
      have c_b_0_5 := R_b_5.cell 0 rfl
      have c_b_1_5 := R_b_5.cell 1 rfl
      have c_b_2_5 := R_b_5.cell 2 rfl
      have c_b_3_5 := R_b_5.cell 3 rfl
      have c_b_4_5 := R_b_5.cell 4 rfl
      have c_b_5_5 := R_b_5.cell 5 rfl
      have c_b_6_5 := R_b_5.cell 6 rfl
      have c_b_7_5 := R_b_5.cell 7 rfl
      have c_b_8_5 := R_b_5.cell 8 rfl
      have c_b_9_5 := R_b_5.cell 9 rfl
      have l_b_5 := R_b_5.lt
      have R_s_5 : Row w5 (w.heap.size + 1) [.int .i64 (s0), .int .i64 (s1)] := by (repeat' (first | (with_reducible assumption) | (with_reducible refine Row.new' _ _ _ (by first | rfl | (simp; done) | omega)) | (with_reducible refine Row.alloc ?_ _) | (with_reducible refine Row.drew ?_) | (with_reducible refine Row.drewN ?_ _) | (with_reducible refine Row.step ?_ (by with_reducible assumption)) | (with_reducible refine Row.set2' ?_ _ _; first | exact ⟨_, _, by with_reducible assumption⟩ | exact ⟨_, _, Row.alloc (by with_reducible assumption) _⟩ | exact ⟨_, _, Row.alloc (Row.alloc (by with_reducible assumption) _) _⟩) | (with_reducible refine Row.other ?_ (by first | omega | (simp; done) | (simp; omega)) _)))
      have c_s_0_5 := R_s_5.cell 0 rfl
      have c_s_1_5 := R_s_5.cell 1 rfl
      have l_s_5 := R_s_5.lt
      replace K := K.step (show Below w4.heap.size w4 w5 by (repeat' (first | (with_reducible exact Below.refl _ _) | (with_reducible assumption) | (with_reducible exact Bw.out (by with_reducible assumption)) | (with_reducible refine bw_alloc ?_ _) | (with_reducible refine bw_step ?_ (by with_reducible assumption)) | (with_reducible refine Below.alloc ?_ ?_ _) | (with_reducible refine Below.drew ?_) | (with_reducible refine below_drewN ?_ _) | (with_reducible refine Below.setCell ?_ ?_ _) | (with_reducible refine below_step ?_ (by with_reducible assumption) ?_) | (with_reducible exact Nat.le_refl _) | omega | (simp; omega) | (simp; done))))
      have HB5 : Below w.heap.size w w5 := by (repeat' (first | (with_reducible exact Below.refl _ _) | (with_reducible assumption) | (with_reducible exact Bw.out (by with_reducible assumption)) | (with_reducible refine bw_alloc ?_ _) | (with_reducible refine bw_step ?_ (by with_reducible assumption)) | (with_reducible refine Below.alloc ?_ ?_ _) | (with_reducible refine Below.drew ?_) | (with_reducible refine below_drewN ?_ _) | (with_reducible refine Below.setCell ?_ ?_ _) | (with_reducible refine below_step ?_ (by with_reducible assumption) ?_) | (with_reducible exact Nat.le_refl _) | omega | (simp; omega) | (simp; done)))
      have hS5 : (fun w' : World => w'.cell? ⟨w.heap.size, 0, none⟩ = some (.int .i64 B.id) ∧ w'.cell? ⟨w.heap.size, 1, none⟩ = some (.int .i64 B.kind) ∧ w'.cell? ⟨w.heap.size, 2, none⟩ = some (.int .i64 B.rooms) ∧ w'.cell? ⟨w.heap.size, 3, none⟩ = some (.int .i64 B.fr) ∧ w'.cell? ⟨w.heap.size, 4, none⟩ = some (.int .i64 B.un) ∧ w'.cell? ⟨w.heap.size, 5, none⟩ = some (.slice ca cn cc) ∧ w'.cell? ⟨w.heap.size, 6, none⟩ = some (.int .i64 B.pn) ∧ w'.cell? ⟨w.heap.size, 7, none⟩ = some (.int .i64 B.pd) ∧ w'.cell? ⟨w.heap.size, 8, none⟩ = some (.int .i64 B.fee) ∧ w'.cell? ⟨w.heap.size, 9, none⟩ = some (.slice pa pm pc) ∧ w'.cell? ⟨w.heap.size + 1, 0, none⟩ = some (.int .i64 (s0)) ∧ w'.cell? ⟨w.heap.size + 1, 1, none⟩ = some (.int .i64 (s1))) w5 := ⟨c_b_0_5, c_b_1_5, c_b_2_5, c_b_3_5, c_b_4_5, c_b_5_5, c_b_6_5, c_b_7_5, c_b_8_5, c_b_9_5, c_s_0_5, c_s_1_5⟩
      refine hKz _ _ (fun _ => hS5) ?_
      clear hKz Kz hS4
      clear R_b_4 c_b_0_4 c_b_1_4 c_b_2_4 c_b_3_4 c_b_4_4 c_b_5_4 c_b_6_4 c_b_7_4 c_b_8_4 c_b_9_4 R_s_4 c_s_0_4 c_s_1_4 hb4 HB4
      refine AnyJ.one (i := 5) (by kernel_rfl) rfl (fun Kz hKz => ?_)
      go_simp
      refine (r_valid_any B ca cn cc pa pm pc _ (K.step (by (repeat' (first | (with_reducible exact Below.refl _ _) | (with_reducible assumption) | (with_reducible exact Bw.out (by with_reducible assumption)) | (with_reducible refine bw_alloc ?_ _) | (with_reducible refine bw_step ?_ (by with_reducible assumption)) | (with_reducible refine Below.alloc ?_ ?_ _) | (with_reducible refine Below.drew ?_) | (with_reducible refine below_drewN ?_ _) | (with_reducible refine Below.setCell ?_ ?_ _) | (with_reducible refine below_step ?_ (by with_reducible assumption) ?_) | (with_reducible exact Nat.le_refl _) | omega | (simp; omega) | (simp; done))))) vb HVB.out).mono ?_
      rintro e w6 ⟨rfl, hb6⟩
      have R_b_6 : Row w6 (w.heap.size) [.int .i64 B.id, .int .i64 B.kind, .int .i64 B.rooms, .int .i64 B.fr, .int .i64 B.un, .slice ca cn cc, .int .i64 B.pn, .int .i64 B.pd, .int .i64 B.fee, .slice pa pm pc] := by (repeat' (first | (with_reducible assumption) | (with_reducible refine Row.new' _ _ _ (by first | rfl | (simp; done) | omega)) | (with_reducible refine Row.alloc ?_ _) | (with_reducible refine Row.drew ?_) | (with_reducible refine Row.drewN ?_ _) | (with_reducible refine Row.step ?_ (by with_reducible assumption)) | (with_reducible refine Row.set2' ?_ _ _; first | exact ⟨_, _, by with_reducible assumption⟩ | exact ⟨_, _, Row.alloc (by with_reducible assumption) _⟩ | exact ⟨_, _, Row.alloc (Row.alloc (by with_reducible assumption) _) _⟩) | (with_reducible refine Row.other ?_ (by first | omega | (simp; done) | (simp; omega)) _)))
      have c_b_0_6 := R_b_6.cell 0 rfl
      have c_b_1_6 := R_b_6.cell 1 rfl
      have c_b_2_6 := R_b_6.cell 2 rfl
      have c_b_3_6 := R_b_6.cell 3 rfl
      have c_b_4_6 := R_b_6.cell 4 rfl
      have c_b_5_6 := R_b_6.cell 5 rfl
      have c_b_6_6 := R_b_6.cell 6 rfl
      have c_b_7_6 := R_b_6.cell 7 rfl
      have c_b_8_6 := R_b_6.cell 8 rfl
      have c_b_9_6 := R_b_6.cell 9 rfl
      have l_b_6 := R_b_6.lt
      have R_s_6 : Row w6 (w.heap.size + 1) [.int .i64 (s0), .int .i64 (s1)] := by (repeat' (first | (with_reducible assumption) | (with_reducible refine Row.new' _ _ _ (by first | rfl | (simp; done) | omega)) | (with_reducible refine Row.alloc ?_ _) | (with_reducible refine Row.drew ?_) | (with_reducible refine Row.drewN ?_ _) | (with_reducible refine Row.step ?_ (by with_reducible assumption)) | (with_reducible refine Row.set2' ?_ _ _; first | exact ⟨_, _, by with_reducible assumption⟩ | exact ⟨_, _, Row.alloc (by with_reducible assumption) _⟩ | exact ⟨_, _, Row.alloc (Row.alloc (by with_reducible assumption) _) _⟩) | (with_reducible refine Row.other ?_ (by first | omega | (simp; done) | (simp; omega)) _)))
      have c_s_0_6 := R_s_6.cell 0 rfl
      have c_s_1_6 := R_s_6.cell 1 rfl
      have l_s_6 := R_s_6.lt
      replace K := K.step (show Below w5.heap.size w5 w6 by (repeat' (first | (with_reducible exact Below.refl _ _) | (with_reducible assumption) | (with_reducible exact Bw.out (by with_reducible assumption)) | (with_reducible refine bw_alloc ?_ _) | (with_reducible refine bw_step ?_ (by with_reducible assumption)) | (with_reducible refine Below.alloc ?_ ?_ _) | (with_reducible refine Below.drew ?_) | (with_reducible refine below_drewN ?_ _) | (with_reducible refine Below.setCell ?_ ?_ _) | (with_reducible refine below_step ?_ (by with_reducible assumption) ?_) | (with_reducible exact Nat.le_refl _) | omega | (simp; omega) | (simp; done))))
      have HB6 : Below w.heap.size w w6 := by (repeat' (first | (with_reducible exact Below.refl _ _) | (with_reducible assumption) | (with_reducible exact Bw.out (by with_reducible assumption)) | (with_reducible refine bw_alloc ?_ _) | (with_reducible refine bw_step ?_ (by with_reducible assumption)) | (with_reducible refine Below.alloc ?_ ?_ _) | (with_reducible refine Below.drew ?_) | (with_reducible refine below_drewN ?_ _) | (with_reducible refine Below.setCell ?_ ?_ _) | (with_reducible refine below_step ?_ (by with_reducible assumption) ?_) | (with_reducible exact Nat.le_refl _) | omega | (simp; omega) | (simp; done)))
      have hS6 : (fun w' : World => w'.cell? ⟨w.heap.size, 0, none⟩ = some (.int .i64 B.id) ∧ w'.cell? ⟨w.heap.size, 1, none⟩ = some (.int .i64 B.kind) ∧ w'.cell? ⟨w.heap.size, 2, none⟩ = some (.int .i64 B.rooms) ∧ w'.cell? ⟨w.heap.size, 3, none⟩ = some (.int .i64 B.fr) ∧ w'.cell? ⟨w.heap.size, 4, none⟩ = some (.int .i64 B.un) ∧ w'.cell? ⟨w.heap.size, 5, none⟩ = some (.slice ca cn cc) ∧ w'.cell? ⟨w.heap.size, 6, none⟩ = some (.int .i64 B.pn) ∧ w'.cell? ⟨w.heap.size, 7, none⟩ = some (.int .i64 B.pd) ∧ w'.cell? ⟨w.heap.size, 8, none⟩ = some (.int .i64 B.fee) ∧ w'.cell? ⟨w.heap.size, 9, none⟩ = some (.slice pa pm pc) ∧ w'.cell? ⟨w.heap.size + 1, 0, none⟩ = some (.int .i64 (s0)) ∧ w'.cell? ⟨w.heap.size + 1, 1, none⟩ = some (.int .i64 (s1))) w6 := ⟨c_b_0_6, c_b_1_6, c_b_2_6, c_b_3_6, c_b_4_6, c_b_5_6, c_b_6_6, c_b_7_6, c_b_8_6, c_b_9_6, c_s_0_6, c_s_1_6⟩
      refine hKz _ _ (fun _ => hS6) ?_
      clear hKz Kz hS5
      clear R_b_5 c_b_0_5 c_b_1_5 c_b_2_5 c_b_3_5 c_b_4_5 c_b_5_5 c_b_6_5 c_b_7_5 c_b_8_5 c_b_9_5 R_s_5 c_s_0_5 c_s_1_5 hb5 HB5
      refine AnyJ.takeD (i := 6) (d := some 41) (v := ?_) rfl (by kernel_rfl) (by kernel_rfl) (by kernel_rfl) (by kernel_rfl) (by kernel_rfl) (fun _ _ _ h => h) (Or.inl ⟨by kernel_rfl, ?_⟩) hS6 ?_
      rotate_left
      · intro w' hS
        clear hS
        go_simp
        try with_reducible rfl
      refine AnyJ.takeD (i := 7) (d := some 42) (v := ?_) rfl (by kernel_rfl) (by kernel_rfl) (by kernel_rfl) (by kernel_rfl) (by kernel_rfl) (fun _ _ _ h => h) (Or.inl ⟨by kernel_rfl, ?_⟩) hS6 ?_
      rotate_left
      · intro w' hS
        clear hS
        go_simp
        try with_reducible rfl
      refine AnyJ.takeD (i := 8) (d := some 43) (v := ?_) rfl (by kernel_rfl) (by kernel_rfl) (by kernel_rfl) (by kernel_rfl) (by kernel_rfl) (fun _ _ _ h => h) (Or.inl ⟨by kernel_rfl, ?_⟩) hS6 ?_
      rotate_left
      · intro w' hS
        clear hS
        go_simp
        try with_reducible rfl
      refine AnyJ.takeD (i := 9) (d := some 44) (v := ?_) rfl (by kernel_rfl) (by kernel_rfl) (by kernel_rfl) (by kernel_rfl) (by kernel_rfl) (fun _ _ _ h => h) (Or.inl ⟨by kernel_rfl, ?_⟩) hS6 ?_
      rotate_left
      · intro w' hS
        clear hS
        go_simp
        try with_reducible rfl
      refine AnyJ.takeD (i := 10) (d := some 45) (v := ?_) rfl (by kernel_rfl) (by kernel_rfl) (by kernel_rfl) (by kernel_rfl) (by kernel_rfl) (fun _ _ _ h => h) (Or.inl ⟨by kernel_rfl, ?_⟩) hS6 ?_
      rotate_left
      · intro w' hS
        clear hS
        go_simp
        try with_reducible rfl
      refine AnyJ.takeD (i := 11) (d := some 46) (v := ?_) rfl (by kernel_rfl) (by kernel_rfl) (by kernel_rfl) (by kernel_rfl) (by kernel_rfl) (fun _ _ _ h => h) (Or.inl ⟨by kernel_rfl, ?_⟩) hS6 ?_
      rotate_left
      · intro w' hS
        clear hS
        go_simp
        try with_reducible rfl
      refine AnyJ.takeD (i := 12) (d := some 47) (v := ?_) rfl (by kernel_rfl) (by kernel_rfl) (by kernel_rfl) (by kernel_rfl) (by kernel_rfl) (fun _ _ _ h => h) (Or.inl ⟨by kernel_rfl, ?_⟩) hS6 ?_
      rotate_left
      · intro w' hS
        clear hS
        go_simp
        try with_reducible rfl
      refine AnyJ.takeD (i := 13) (d := some 48) (v := ?_) rfl (by kernel_rfl) (by kernel_rfl) (by kernel_rfl) (by kernel_rfl) (by kernel_rfl) (fun _ _ _ h => h) (Or.inl ⟨by kernel_rfl, ?_⟩) hS6 ?_
      rotate_left
      · intro w' hS
        clear hS
        go_simp
        try with_reducible rfl
      refine AnyJ.takeD (i := 14) (d := some 49) (v := ?_) rfl (by kernel_rfl) (by kernel_rfl) (by kernel_rfl) (by kernel_rfl) (by kernel_rfl) (fun _ _ _ h => h) (Or.inl ⟨by kernel_rfl, ?_⟩) hS6 ?_
      rotate_left
      · intro w' hS
        clear hS
        go_simp
        try with_reducible rfl
      refine AnyJ.takeD (i := 15) (d := some 50) (v := ?_) rfl (by kernel_rfl) (by kernel_rfl) (by kernel_rfl) (by kernel_rfl) (by kernel_rfl) (fun _ _ _ h => h) (Or.inl ⟨by kernel_rfl, ?_⟩) hS6 ?_
      rotate_left
      · intro w' hS
        clear hS
        go_simp
        try with_reducible rfl
      refine AnyJ.takeD (i := 16) (d := some 51) (v := ?_) rfl (by kernel_rfl) (by kernel_rfl) (by kernel_rfl) (by kernel_rfl) (by kernel_rfl) (fun _ _ _ h => h) (Or.inl ⟨by kernel_rfl, ?_⟩) hS6 ?_
      rotate_left
      · intro w' hS
        clear hS
        go_simp
        try with_reducible rfl
      refine AnyJ.takeD (i := 17) (d := some 52) (v := ?_) rfl (by kernel_rfl) (by kernel_rfl) (by kernel_rfl) (by kernel_rfl) (by kernel_rfl) (fun _ _ _ h => h) (Or.inl ⟨by kernel_rfl, ?_⟩) hS6 ?_
      rotate_left
      · intro w' hS
        clear hS
        go_simp
        try with_reducible rfl
      refine AnyJ.takeD (i := 18) (d := some 9) (v := ?_) rfl (by kernel_rfl) (by kernel_rfl) (by kernel_rfl) (by kernel_rfl) (by kernel_rfl) (fun _ _ _ h => h) (Or.inl ⟨by kernel_rfl, ?_⟩) hS6 ?_
      rotate_left
      · intro w' hS
        clear hS
        go_simp
        try with_reducible rfl
      refine AnyJ.done (by kernel_rfl) ?_ _
      clear hS6
      simp only [Act.put, List.setIfInBounds_toArray, List.set_cons_zero, List.set_cons_succ]
      go_wp2_with fail
      refine (g_Pick_none B day s0 s1 _ _ _ _ _ _ _ (K.step (by (repeat' (first | (with_reducible exact Below.refl _ _) | (with_reducible assumption) | (with_reducible exact Bw.out (by with_reducible assumption)) | (with_reducible refine bw_alloc ?_ _) | (with_reducible refine bw_step ?_ (by with_reducible assumption)) | (with_reducible refine Below.alloc ?_ ?_ _) | (with_reducible refine Below.drew ?_) | (with_reducible refine below_drewN ?_ _) | (with_reducible refine Below.setCell ?_ ?_ _) | (with_reducible refine below_step ?_ (by with_reducible assumption) ?_) | (with_reducible exact Nat.le_refl _) | omega | (simp; omega) | (simp; done))))) PE HP.out h0 HWS.out.1 HWS.out.2).mono ?_
      rintro e w7 ⟨rfl, hb7⟩
      have R_b_7 : Row w7 (w.heap.size) [.int .i64 B.id, .int .i64 B.kind, .int .i64 B.rooms, .int .i64 B.fr, .int .i64 B.un, .slice ca cn cc, .int .i64 B.pn, .int .i64 B.pd, .int .i64 B.fee, .slice pa pm pc] := by (repeat' (first | (with_reducible assumption) | (with_reducible refine Row.new' _ _ _ (by first | rfl | (simp; done) | omega)) | (with_reducible refine Row.alloc ?_ _) | (with_reducible refine Row.drew ?_) | (with_reducible refine Row.drewN ?_ _) | (with_reducible refine Row.step ?_ (by with_reducible assumption)) | (with_reducible refine Row.set2' ?_ _ _; first | exact ⟨_, _, by with_reducible assumption⟩ | exact ⟨_, _, Row.alloc (by with_reducible assumption) _⟩ | exact ⟨_, _, Row.alloc (Row.alloc (by with_reducible assumption) _) _⟩) | (with_reducible refine Row.other ?_ (by first | omega | (simp; done) | (simp; omega)) _)))
      have c_b_0_7 := R_b_7.cell 0 rfl
      have c_b_1_7 := R_b_7.cell 1 rfl
      have c_b_2_7 := R_b_7.cell 2 rfl
      have c_b_3_7 := R_b_7.cell 3 rfl
      have c_b_4_7 := R_b_7.cell 4 rfl
      have c_b_5_7 := R_b_7.cell 5 rfl
      have c_b_6_7 := R_b_7.cell 6 rfl
      have c_b_7_7 := R_b_7.cell 7 rfl
      have c_b_8_7 := R_b_7.cell 8 rfl
      have c_b_9_7 := R_b_7.cell 9 rfl
      have l_b_7 := R_b_7.lt
      have R_s_7 : Row w7 (w.heap.size + 1) [.int .i64 (s0), .int .i64 (s1)] := by (repeat' (first | (with_reducible assumption) | (with_reducible refine Row.new' _ _ _ (by first | rfl | (simp; done) | omega)) | (with_reducible refine Row.alloc ?_ _) | (with_reducible refine Row.drew ?_) | (with_reducible refine Row.drewN ?_ _) | (with_reducible refine Row.step ?_ (by with_reducible assumption)) | (with_reducible refine Row.set2' ?_ _ _; first | exact ⟨_, _, by with_reducible assumption⟩ | exact ⟨_, _, Row.alloc (by with_reducible assumption) _⟩ | exact ⟨_, _, Row.alloc (Row.alloc (by with_reducible assumption) _) _⟩) | (with_reducible refine Row.other ?_ (by first | omega | (simp; done) | (simp; omega)) _)))
      have c_s_0_7 := R_s_7.cell 0 rfl
      have c_s_1_7 := R_s_7.cell 1 rfl
      have l_s_7 := R_s_7.lt
      replace K := K.step (show Below w6.heap.size w6 w7 by (repeat' (first | (with_reducible exact Below.refl _ _) | (with_reducible assumption) | (with_reducible exact Bw.out (by with_reducible assumption)) | (with_reducible refine bw_alloc ?_ _) | (with_reducible refine bw_step ?_ (by with_reducible assumption)) | (with_reducible refine Below.alloc ?_ ?_ _) | (with_reducible refine Below.drew ?_) | (with_reducible refine below_drewN ?_ _) | (with_reducible refine Below.setCell ?_ ?_ _) | (with_reducible refine below_step ?_ (by with_reducible assumption) ?_) | (with_reducible exact Nat.le_refl _) | omega | (simp; omega) | (simp; done))))
      have HB7 : Below w.heap.size w w7 := by (repeat' (first | (with_reducible exact Below.refl _ _) | (with_reducible assumption) | (with_reducible exact Bw.out (by with_reducible assumption)) | (with_reducible refine bw_alloc ?_ _) | (with_reducible refine bw_step ?_ (by with_reducible assumption)) | (with_reducible refine Below.alloc ?_ ?_ _) | (with_reducible refine Below.drew ?_) | (with_reducible refine below_drewN ?_ _) | (with_reducible refine Below.setCell ?_ ?_ _) | (with_reducible refine below_step ?_ (by with_reducible assumption) ?_) | (with_reducible exact Nat.le_refl _) | omega | (simp; omega) | (simp; done)))
      clear R_b_6 c_b_0_6 c_b_1_6 c_b_2_6 c_b_3_6 c_b_4_6 c_b_5_6 c_b_6_6 c_b_7_6 c_b_8_6 c_b_9_6 R_s_6 c_s_0_6 c_s_1_6 hb6 HB6
      go_wp2_with fail
      refine (r_Pick_none B day s0 s1 _ _ _ _ _ _ _ (K.step (by (repeat' (first | (with_reducible exact Below.refl _ _) | (with_reducible assumption) | (with_reducible exact Bw.out (by with_reducible assumption)) | (with_reducible refine bw_alloc ?_ _) | (with_reducible refine bw_step ?_ (by with_reducible assumption)) | (with_reducible refine Below.alloc ?_ ?_ _) | (with_reducible refine Below.drew ?_) | (with_reducible refine below_drewN ?_ _) | (with_reducible refine Below.setCell ?_ ?_ _) | (with_reducible refine below_step ?_ (by with_reducible assumption) ?_) | (with_reducible exact Nat.le_refl _) | omega | (simp; omega) | (simp; done))))) PE HP.out h0).mono ?_
      rintro e w8 ⟨rfl, hb8⟩
      have R_b_8 : Row w8 (w.heap.size) [.int .i64 B.id, .int .i64 B.kind, .int .i64 B.rooms, .int .i64 B.fr, .int .i64 B.un, .slice ca cn cc, .int .i64 B.pn, .int .i64 B.pd, .int .i64 B.fee, .slice pa pm pc] := by (repeat' (first | (with_reducible assumption) | (with_reducible refine Row.new' _ _ _ (by first | rfl | (simp; done) | omega)) | (with_reducible refine Row.alloc ?_ _) | (with_reducible refine Row.drew ?_) | (with_reducible refine Row.drewN ?_ _) | (with_reducible refine Row.step ?_ (by with_reducible assumption)) | (with_reducible refine Row.set2' ?_ _ _; first | exact ⟨_, _, by with_reducible assumption⟩ | exact ⟨_, _, Row.alloc (by with_reducible assumption) _⟩ | exact ⟨_, _, Row.alloc (Row.alloc (by with_reducible assumption) _) _⟩) | (with_reducible refine Row.other ?_ (by first | omega | (simp; done) | (simp; omega)) _)))
      have c_b_0_8 := R_b_8.cell 0 rfl
      have c_b_1_8 := R_b_8.cell 1 rfl
      have c_b_2_8 := R_b_8.cell 2 rfl
      have c_b_3_8 := R_b_8.cell 3 rfl
      have c_b_4_8 := R_b_8.cell 4 rfl
      have c_b_5_8 := R_b_8.cell 5 rfl
      have c_b_6_8 := R_b_8.cell 6 rfl
      have c_b_7_8 := R_b_8.cell 7 rfl
      have c_b_8_8 := R_b_8.cell 8 rfl
      have c_b_9_8 := R_b_8.cell 9 rfl
      have l_b_8 := R_b_8.lt
      have R_s_8 : Row w8 (w.heap.size + 1) [.int .i64 (s0), .int .i64 (s1)] := by (repeat' (first | (with_reducible assumption) | (with_reducible refine Row.new' _ _ _ (by first | rfl | (simp; done) | omega)) | (with_reducible refine Row.alloc ?_ _) | (with_reducible refine Row.drew ?_) | (with_reducible refine Row.drewN ?_ _) | (with_reducible refine Row.step ?_ (by with_reducible assumption)) | (with_reducible refine Row.set2' ?_ _ _; first | exact ⟨_, _, by with_reducible assumption⟩ | exact ⟨_, _, Row.alloc (by with_reducible assumption) _⟩ | exact ⟨_, _, Row.alloc (Row.alloc (by with_reducible assumption) _) _⟩) | (with_reducible refine Row.other ?_ (by first | omega | (simp; done) | (simp; omega)) _)))
      have c_s_0_8 := R_s_8.cell 0 rfl
      have c_s_1_8 := R_s_8.cell 1 rfl
      have l_s_8 := R_s_8.lt
      have R_x_8 : Row w8 (w7.heap.size) [.int .i64 (0), .int .i64 (0), .int .i64 (0), .int .i64 (0), .int .i64 (0), .slice none 0 0, .int .i64 (0), .int .i64 (0), .int .i64 (0), .slice none 0 0] := by (repeat' (first | (with_reducible assumption) | (with_reducible refine Row.new' _ _ _ (by first | rfl | (simp; done) | omega)) | (with_reducible refine Row.alloc ?_ _) | (with_reducible refine Row.drew ?_) | (with_reducible refine Row.drewN ?_ _) | (with_reducible refine Row.step ?_ (by with_reducible assumption)) | (with_reducible refine Row.set2' ?_ _ _; first | exact ⟨_, _, by with_reducible assumption⟩ | exact ⟨_, _, Row.alloc (by with_reducible assumption) _⟩ | exact ⟨_, _, Row.alloc (Row.alloc (by with_reducible assumption) _) _⟩) | (with_reducible refine Row.other ?_ (by first | omega | (simp; done) | (simp; omega)) _)))
      have c_x_0_8 := R_x_8.cell 0 rfl
      have c_x_1_8 := R_x_8.cell 1 rfl
      have c_x_2_8 := R_x_8.cell 2 rfl
      have c_x_3_8 := R_x_8.cell 3 rfl
      have c_x_4_8 := R_x_8.cell 4 rfl
      have c_x_5_8 := R_x_8.cell 5 rfl
      have c_x_6_8 := R_x_8.cell 6 rfl
      have c_x_7_8 := R_x_8.cell 7 rfl
      have c_x_8_8 := R_x_8.cell 8 rfl
      have c_x_9_8 := R_x_8.cell 9 rfl
      have l_x_8 := R_x_8.lt
      replace K := K.step (show Below w7.heap.size w7 w8 by (repeat' (first | (with_reducible exact Below.refl _ _) | (with_reducible assumption) | (with_reducible exact Bw.out (by with_reducible assumption)) | (with_reducible refine bw_alloc ?_ _) | (with_reducible refine bw_step ?_ (by with_reducible assumption)) | (with_reducible refine Below.alloc ?_ ?_ _) | (with_reducible refine Below.drew ?_) | (with_reducible refine below_drewN ?_ _) | (with_reducible refine Below.setCell ?_ ?_ _) | (with_reducible refine below_step ?_ (by with_reducible assumption) ?_) | (with_reducible exact Nat.le_refl _) | omega | (simp; omega) | (simp; done))))
      have HB8 : Below w.heap.size w w8 := by (repeat' (first | (with_reducible exact Below.refl _ _) | (with_reducible assumption) | (with_reducible exact Bw.out (by with_reducible assumption)) | (with_reducible refine bw_alloc ?_ _) | (with_reducible refine bw_step ?_ (by with_reducible assumption)) | (with_reducible refine Below.alloc ?_ ?_ _) | (with_reducible refine Below.drew ?_) | (with_reducible refine below_drewN ?_ _) | (with_reducible refine Below.setCell ?_ ?_ _) | (with_reducible refine below_step ?_ (by with_reducible assumption) ?_) | (with_reducible exact Nat.le_refl _) | omega | (simp; omega) | (simp; done)))
      clear R_b_7 c_b_0_7 c_b_1_7 c_b_2_7 c_b_3_7 c_b_4_7 c_b_5_7 c_b_6_7 c_b_7_7 c_b_8_7 c_b_9_7 R_s_7 c_s_0_7 c_s_1_7 hb7 HB7
      go_wp2_with fail
      refine (r_Same noB none 0 0 none 0 0 none 0 none 0 _ (no_in _) (no_in _)).mono ?_
      rintro e w9 ⟨rfl, hb9⟩
      have R_b_9 : Row w9 (w.heap.size) [.int .i64 B.id, .int .i64 B.kind, .int .i64 B.rooms, .int .i64 B.fr, .int .i64 B.un, .slice ca cn cc, .int .i64 B.pn, .int .i64 B.pd, .int .i64 B.fee, .slice pa pm pc] := by (repeat' (first | (with_reducible assumption) | (with_reducible refine Row.new' _ _ _ (by first | rfl | (simp; done) | omega)) | (with_reducible refine Row.alloc ?_ _) | (with_reducible refine Row.drew ?_) | (with_reducible refine Row.drewN ?_ _) | (with_reducible refine Row.step ?_ (by with_reducible assumption)) | (with_reducible refine Row.set2' ?_ _ _; first | exact ⟨_, _, by with_reducible assumption⟩ | exact ⟨_, _, Row.alloc (by with_reducible assumption) _⟩ | exact ⟨_, _, Row.alloc (Row.alloc (by with_reducible assumption) _) _⟩) | (with_reducible refine Row.other ?_ (by first | omega | (simp; done) | (simp; omega)) _)))
      have c_b_0_9 := R_b_9.cell 0 rfl
      have c_b_1_9 := R_b_9.cell 1 rfl
      have c_b_2_9 := R_b_9.cell 2 rfl
      have c_b_3_9 := R_b_9.cell 3 rfl
      have c_b_4_9 := R_b_9.cell 4 rfl
      have c_b_5_9 := R_b_9.cell 5 rfl
      have c_b_6_9 := R_b_9.cell 6 rfl
      have c_b_7_9 := R_b_9.cell 7 rfl
      have c_b_8_9 := R_b_9.cell 8 rfl
      have c_b_9_9 := R_b_9.cell 9 rfl
      have l_b_9 := R_b_9.lt
      have R_s_9 : Row w9 (w.heap.size + 1) [.int .i64 (s0), .int .i64 (s1)] := by (repeat' (first | (with_reducible assumption) | (with_reducible refine Row.new' _ _ _ (by first | rfl | (simp; done) | omega)) | (with_reducible refine Row.alloc ?_ _) | (with_reducible refine Row.drew ?_) | (with_reducible refine Row.drewN ?_ _) | (with_reducible refine Row.step ?_ (by with_reducible assumption)) | (with_reducible refine Row.set2' ?_ _ _; first | exact ⟨_, _, by with_reducible assumption⟩ | exact ⟨_, _, Row.alloc (by with_reducible assumption) _⟩ | exact ⟨_, _, Row.alloc (Row.alloc (by with_reducible assumption) _) _⟩) | (with_reducible refine Row.other ?_ (by first | omega | (simp; done) | (simp; omega)) _)))
      have c_s_0_9 := R_s_9.cell 0 rfl
      have c_s_1_9 := R_s_9.cell 1 rfl
      have l_s_9 := R_s_9.lt
      have R_x_9 : Row w9 (w7.heap.size) [.int .i64 (0), .int .i64 (0), .int .i64 (0), .int .i64 (0), .int .i64 (0), .slice none 0 0, .int .i64 (0), .int .i64 (0), .int .i64 (0), .slice none 0 0] := by (repeat' (first | (with_reducible assumption) | (with_reducible refine Row.new' _ _ _ (by first | rfl | (simp; done) | omega)) | (with_reducible refine Row.alloc ?_ _) | (with_reducible refine Row.drew ?_) | (with_reducible refine Row.drewN ?_ _) | (with_reducible refine Row.step ?_ (by with_reducible assumption)) | (with_reducible refine Row.set2' ?_ _ _; first | exact ⟨_, _, by with_reducible assumption⟩ | exact ⟨_, _, Row.alloc (by with_reducible assumption) _⟩ | exact ⟨_, _, Row.alloc (Row.alloc (by with_reducible assumption) _) _⟩) | (with_reducible refine Row.other ?_ (by first | omega | (simp; done) | (simp; omega)) _)))
      have c_x_0_9 := R_x_9.cell 0 rfl
      have c_x_1_9 := R_x_9.cell 1 rfl
      have c_x_2_9 := R_x_9.cell 2 rfl
      have c_x_3_9 := R_x_9.cell 3 rfl
      have c_x_4_9 := R_x_9.cell 4 rfl
      have c_x_5_9 := R_x_9.cell 5 rfl
      have c_x_6_9 := R_x_9.cell 6 rfl
      have c_x_7_9 := R_x_9.cell 7 rfl
      have c_x_8_9 := R_x_9.cell 8 rfl
      have c_x_9_9 := R_x_9.cell 9 rfl
      have l_x_9 := R_x_9.lt
      have R_y_9 : Row w9 (w8.heap.size) [.int .i64 (0), .int .i64 (0), .int .i64 (0), .int .i64 (0), .int .i64 (0), .slice none 0 0, .int .i64 (0), .int .i64 (0), .int .i64 (0), .slice none 0 0] := by (repeat' (first | (with_reducible assumption) | (with_reducible refine Row.new' _ _ _ (by first | rfl | (simp; done) | omega)) | (with_reducible refine Row.alloc ?_ _) | (with_reducible refine Row.drew ?_) | (with_reducible refine Row.drewN ?_ _) | (with_reducible refine Row.step ?_ (by with_reducible assumption)) | (with_reducible refine Row.set2' ?_ _ _; first | exact ⟨_, _, by with_reducible assumption⟩ | exact ⟨_, _, Row.alloc (by with_reducible assumption) _⟩ | exact ⟨_, _, Row.alloc (Row.alloc (by with_reducible assumption) _) _⟩) | (with_reducible refine Row.other ?_ (by first | omega | (simp; done) | (simp; omega)) _)))
      have c_y_0_9 := R_y_9.cell 0 rfl
      have c_y_1_9 := R_y_9.cell 1 rfl
      have c_y_2_9 := R_y_9.cell 2 rfl
      have c_y_3_9 := R_y_9.cell 3 rfl
      have c_y_4_9 := R_y_9.cell 4 rfl
      have c_y_5_9 := R_y_9.cell 5 rfl
      have c_y_6_9 := R_y_9.cell 6 rfl
      have c_y_7_9 := R_y_9.cell 7 rfl
      have c_y_8_9 := R_y_9.cell 8 rfl
      have c_y_9_9 := R_y_9.cell 9 rfl
      have l_y_9 := R_y_9.lt
      replace K := K.step (show Below w8.heap.size w8 w9 by (repeat' (first | (with_reducible exact Below.refl _ _) | (with_reducible assumption) | (with_reducible exact Bw.out (by with_reducible assumption)) | (with_reducible refine bw_alloc ?_ _) | (with_reducible refine bw_step ?_ (by with_reducible assumption)) | (with_reducible refine Below.alloc ?_ ?_ _) | (with_reducible refine Below.drew ?_) | (with_reducible refine below_drewN ?_ _) | (with_reducible refine Below.setCell ?_ ?_ _) | (with_reducible refine below_step ?_ (by with_reducible assumption) ?_) | (with_reducible exact Nat.le_refl _) | omega | (simp; omega) | (simp; done))))
      have HB9 : Below w.heap.size w w9 := by (repeat' (first | (with_reducible exact Below.refl _ _) | (with_reducible assumption) | (with_reducible exact Bw.out (by with_reducible assumption)) | (with_reducible refine bw_alloc ?_ _) | (with_reducible refine bw_step ?_ (by with_reducible assumption)) | (with_reducible refine Below.alloc ?_ ?_ _) | (with_reducible refine Below.drew ?_) | (with_reducible refine below_drewN ?_ _) | (with_reducible refine Below.setCell ?_ ?_ _) | (with_reducible refine below_step ?_ (by with_reducible assumption) ?_) | (with_reducible exact Nat.le_refl _) | omega | (simp; omega) | (simp; done)))
      clear R_b_8 c_b_0_8 c_b_1_8 c_b_2_8 c_b_3_8 c_b_4_8 c_b_5_8 c_b_6_8 c_b_7_8 c_b_8_8 c_b_9_8 R_s_8 c_s_0_8 c_s_1_8 R_x_8 c_x_0_8 c_x_1_8 c_x_2_8 c_x_3_8 c_x_4_8 c_x_5_8 c_x_6_8 c_x_7_8 c_x_8_8 c_x_9_8 hb8 HB8
      go_wp2_with fail
      refine (g_Fee_any B _ _ _ _ _ _ _ (K.step (by (repeat' (first | (with_reducible exact Below.refl _ _) | (with_reducible assumption) | (with_reducible exact Bw.out (by with_reducible assumption)) | (with_reducible refine bw_alloc ?_ _) | (with_reducible refine bw_step ?_ (by with_reducible assumption)) | (with_reducible refine Below.alloc ?_ ?_ _) | (with_reducible refine Below.drew ?_) | (with_reducible refine below_drewN ?_ _) | (with_reducible refine Below.setCell ?_ ?_ _) | (with_reducible refine below_step ?_ (by with_reducible assumption) ?_) | (with_reducible exact Nat.le_refl _) | omega | (simp; omega) | (simp; done))))) FV FE HFV.out HFE.out).mono ?_
      rintro e w10 ⟨rfl, hb10⟩
      have R_b_10 : Row w10 (w.heap.size) [.int .i64 B.id, .int .i64 B.kind, .int .i64 B.rooms, .int .i64 B.fr, .int .i64 B.un, .slice ca cn cc, .int .i64 B.pn, .int .i64 B.pd, .int .i64 B.fee, .slice pa pm pc] := by (repeat' (first | (with_reducible assumption) | (with_reducible refine Row.new' _ _ _ (by first | rfl | (simp; done) | omega)) | (with_reducible refine Row.alloc ?_ _) | (with_reducible refine Row.drew ?_) | (with_reducible refine Row.drewN ?_ _) | (with_reducible refine Row.step ?_ (by with_reducible assumption)) | (with_reducible refine Row.set2' ?_ _ _; first | exact ⟨_, _, by with_reducible assumption⟩ | exact ⟨_, _, Row.alloc (by with_reducible assumption) _⟩ | exact ⟨_, _, Row.alloc (Row.alloc (by with_reducible assumption) _) _⟩) | (with_reducible refine Row.other ?_ (by first | omega | (simp; done) | (simp; omega)) _)))
      have c_b_0_10 := R_b_10.cell 0 rfl
      have c_b_1_10 := R_b_10.cell 1 rfl
      have c_b_2_10 := R_b_10.cell 2 rfl
      have c_b_3_10 := R_b_10.cell 3 rfl
      have c_b_4_10 := R_b_10.cell 4 rfl
      have c_b_5_10 := R_b_10.cell 5 rfl
      have c_b_6_10 := R_b_10.cell 6 rfl
      have c_b_7_10 := R_b_10.cell 7 rfl
      have c_b_8_10 := R_b_10.cell 8 rfl
      have c_b_9_10 := R_b_10.cell 9 rfl
      have l_b_10 := R_b_10.lt
      have R_s_10 : Row w10 (w.heap.size + 1) [.int .i64 (s0), .int .i64 (s1)] := by (repeat' (first | (with_reducible assumption) | (with_reducible refine Row.new' _ _ _ (by first | rfl | (simp; done) | omega)) | (with_reducible refine Row.alloc ?_ _) | (with_reducible refine Row.drew ?_) | (with_reducible refine Row.drewN ?_ _) | (with_reducible refine Row.step ?_ (by with_reducible assumption)) | (with_reducible refine Row.set2' ?_ _ _; first | exact ⟨_, _, by with_reducible assumption⟩ | exact ⟨_, _, Row.alloc (by with_reducible assumption) _⟩ | exact ⟨_, _, Row.alloc (Row.alloc (by with_reducible assumption) _) _⟩) | (with_reducible refine Row.other ?_ (by first | omega | (simp; done) | (simp; omega)) _)))
      have c_s_0_10 := R_s_10.cell 0 rfl
      have c_s_1_10 := R_s_10.cell 1 rfl
      have l_s_10 := R_s_10.lt
      have R_x_10 : Row w10 (w7.heap.size) [.int .i64 (0), .int .i64 (0), .int .i64 (0), .int .i64 (0), .int .i64 (0), .slice none 0 0, .int .i64 (0), .int .i64 (0), .int .i64 (0), .slice none 0 0] := by (repeat' (first | (with_reducible assumption) | (with_reducible refine Row.new' _ _ _ (by first | rfl | (simp; done) | omega)) | (with_reducible refine Row.alloc ?_ _) | (with_reducible refine Row.drew ?_) | (with_reducible refine Row.drewN ?_ _) | (with_reducible refine Row.step ?_ (by with_reducible assumption)) | (with_reducible refine Row.set2' ?_ _ _; first | exact ⟨_, _, by with_reducible assumption⟩ | exact ⟨_, _, Row.alloc (by with_reducible assumption) _⟩ | exact ⟨_, _, Row.alloc (Row.alloc (by with_reducible assumption) _) _⟩) | (with_reducible refine Row.other ?_ (by first | omega | (simp; done) | (simp; omega)) _)))
      have c_x_0_10 := R_x_10.cell 0 rfl
      have c_x_1_10 := R_x_10.cell 1 rfl
      have c_x_2_10 := R_x_10.cell 2 rfl
      have c_x_3_10 := R_x_10.cell 3 rfl
      have c_x_4_10 := R_x_10.cell 4 rfl
      have c_x_5_10 := R_x_10.cell 5 rfl
      have c_x_6_10 := R_x_10.cell 6 rfl
      have c_x_7_10 := R_x_10.cell 7 rfl
      have c_x_8_10 := R_x_10.cell 8 rfl
      have c_x_9_10 := R_x_10.cell 9 rfl
      have l_x_10 := R_x_10.lt
      have R_y_10 : Row w10 (w8.heap.size) [.int .i64 (0), .int .i64 (0), .int .i64 (0), .int .i64 (0), .int .i64 (0), .slice none 0 0, .int .i64 (0), .int .i64 (0), .int .i64 (0), .slice none 0 0] := by (repeat' (first | (with_reducible assumption) | (with_reducible refine Row.new' _ _ _ (by first | rfl | (simp; done) | omega)) | (with_reducible refine Row.alloc ?_ _) | (with_reducible refine Row.drew ?_) | (with_reducible refine Row.drewN ?_ _) | (with_reducible refine Row.step ?_ (by with_reducible assumption)) | (with_reducible refine Row.set2' ?_ _ _; first | exact ⟨_, _, by with_reducible assumption⟩ | exact ⟨_, _, Row.alloc (by with_reducible assumption) _⟩ | exact ⟨_, _, Row.alloc (Row.alloc (by with_reducible assumption) _) _⟩) | (with_reducible refine Row.other ?_ (by first | omega | (simp; done) | (simp; omega)) _)))
      have c_y_0_10 := R_y_10.cell 0 rfl
      have c_y_1_10 := R_y_10.cell 1 rfl
      have c_y_2_10 := R_y_10.cell 2 rfl
      have c_y_3_10 := R_y_10.cell 3 rfl
      have c_y_4_10 := R_y_10.cell 4 rfl
      have c_y_5_10 := R_y_10.cell 5 rfl
      have c_y_6_10 := R_y_10.cell 6 rfl
      have c_y_7_10 := R_y_10.cell 7 rfl
      have c_y_8_10 := R_y_10.cell 8 rfl
      have c_y_9_10 := R_y_10.cell 9 rfl
      have l_y_10 := R_y_10.lt
      replace K := K.step (show Below w9.heap.size w9 w10 by (repeat' (first | (with_reducible exact Below.refl _ _) | (with_reducible assumption) | (with_reducible exact Bw.out (by with_reducible assumption)) | (with_reducible refine bw_alloc ?_ _) | (with_reducible refine bw_step ?_ (by with_reducible assumption)) | (with_reducible refine Below.alloc ?_ ?_ _) | (with_reducible refine Below.drew ?_) | (with_reducible refine below_drewN ?_ _) | (with_reducible refine Below.setCell ?_ ?_ _) | (with_reducible refine below_step ?_ (by with_reducible assumption) ?_) | (with_reducible exact Nat.le_refl _) | omega | (simp; omega) | (simp; done))))
      have HB10 : Below w.heap.size w w10 := by (repeat' (first | (with_reducible exact Below.refl _ _) | (with_reducible assumption) | (with_reducible exact Bw.out (by with_reducible assumption)) | (with_reducible refine bw_alloc ?_ _) | (with_reducible refine bw_step ?_ (by with_reducible assumption)) | (with_reducible refine Below.alloc ?_ ?_ _) | (with_reducible refine Below.drew ?_) | (with_reducible refine below_drewN ?_ _) | (with_reducible refine Below.setCell ?_ ?_ _) | (with_reducible refine below_step ?_ (by with_reducible assumption) ?_) | (with_reducible exact Nat.le_refl _) | omega | (simp; omega) | (simp; done)))
      clear R_b_9 c_b_0_9 c_b_1_9 c_b_2_9 c_b_3_9 c_b_4_9 c_b_5_9 c_b_6_9 c_b_7_9 c_b_8_9 c_b_9_9 R_s_9 c_s_0_9 c_s_1_9 R_x_9 c_x_0_9 c_x_1_9 c_x_2_9 c_x_3_9 c_x_4_9 c_x_5_9 c_x_6_9 c_x_7_9 c_x_8_9 c_x_9_9 R_y_9 c_y_0_9 c_y_1_9 c_y_2_9 c_y_3_9 c_y_4_9 c_y_5_9 c_y_6_9 c_y_7_9 c_y_8_9 c_y_9_9 hb9 HB9
      go_wp2_with fail
      refine (r_Fee_any B _ _ _ _ _ _ _ (K.step (by (repeat' (first | (with_reducible exact Below.refl _ _) | (with_reducible assumption) | (with_reducible exact Bw.out (by with_reducible assumption)) | (with_reducible refine bw_alloc ?_ _) | (with_reducible refine bw_step ?_ (by with_reducible assumption)) | (with_reducible refine Below.alloc ?_ ?_ _) | (with_reducible refine Below.drew ?_) | (with_reducible refine below_drewN ?_ _) | (with_reducible refine Below.setCell ?_ ?_ _) | (with_reducible refine below_step ?_ (by with_reducible assumption) ?_) | (with_reducible exact Nat.le_refl _) | omega | (simp; omega) | (simp; done))))) FV FE HFV.out HFE.out).mono ?_
      rintro e w11 ⟨rfl, hb11⟩
      have R_b_11 : Row w11 (w.heap.size) [.int .i64 B.id, .int .i64 B.kind, .int .i64 B.rooms, .int .i64 B.fr, .int .i64 B.un, .slice ca cn cc, .int .i64 B.pn, .int .i64 B.pd, .int .i64 B.fee, .slice pa pm pc] := by (repeat' (first | (with_reducible assumption) | (with_reducible refine Row.new' _ _ _ (by first | rfl | (simp; done) | omega)) | (with_reducible refine Row.alloc ?_ _) | (with_reducible refine Row.drew ?_) | (with_reducible refine Row.drewN ?_ _) | (with_reducible refine Row.step ?_ (by with_reducible assumption)) | (with_reducible refine Row.set2' ?_ _ _; first | exact ⟨_, _, by with_reducible assumption⟩ | exact ⟨_, _, Row.alloc (by with_reducible assumption) _⟩ | exact ⟨_, _, Row.alloc (Row.alloc (by with_reducible assumption) _) _⟩) | (with_reducible refine Row.other ?_ (by first | omega | (simp; done) | (simp; omega)) _)))
      have c_b_0_11 := R_b_11.cell 0 rfl
      have c_b_1_11 := R_b_11.cell 1 rfl
      have c_b_2_11 := R_b_11.cell 2 rfl
      have c_b_3_11 := R_b_11.cell 3 rfl
      have c_b_4_11 := R_b_11.cell 4 rfl
      have c_b_5_11 := R_b_11.cell 5 rfl
      have c_b_6_11 := R_b_11.cell 6 rfl
      have c_b_7_11 := R_b_11.cell 7 rfl
      have c_b_8_11 := R_b_11.cell 8 rfl
      have c_b_9_11 := R_b_11.cell 9 rfl
      have l_b_11 := R_b_11.lt
      have R_s_11 : Row w11 (w.heap.size + 1) [.int .i64 (s0), .int .i64 (s1)] := by (repeat' (first | (with_reducible assumption) | (with_reducible refine Row.new' _ _ _ (by first | rfl | (simp; done) | omega)) | (with_reducible refine Row.alloc ?_ _) | (with_reducible refine Row.drew ?_) | (with_reducible refine Row.drewN ?_ _) | (with_reducible refine Row.step ?_ (by with_reducible assumption)) | (with_reducible refine Row.set2' ?_ _ _; first | exact ⟨_, _, by with_reducible assumption⟩ | exact ⟨_, _, Row.alloc (by with_reducible assumption) _⟩ | exact ⟨_, _, Row.alloc (Row.alloc (by with_reducible assumption) _) _⟩) | (with_reducible refine Row.other ?_ (by first | omega | (simp; done) | (simp; omega)) _)))
      have c_s_0_11 := R_s_11.cell 0 rfl
      have c_s_1_11 := R_s_11.cell 1 rfl
      have l_s_11 := R_s_11.lt
      have R_x_11 : Row w11 (w7.heap.size) [.int .i64 (0), .int .i64 (0), .int .i64 (0), .int .i64 (0), .int .i64 (0), .slice none 0 0, .int .i64 (0), .int .i64 (0), .int .i64 (0), .slice none 0 0] := by (repeat' (first | (with_reducible assumption) | (with_reducible refine Row.new' _ _ _ (by first | rfl | (simp; done) | omega)) | (with_reducible refine Row.alloc ?_ _) | (with_reducible refine Row.drew ?_) | (with_reducible refine Row.drewN ?_ _) | (with_reducible refine Row.step ?_ (by with_reducible assumption)) | (with_reducible refine Row.set2' ?_ _ _; first | exact ⟨_, _, by with_reducible assumption⟩ | exact ⟨_, _, Row.alloc (by with_reducible assumption) _⟩ | exact ⟨_, _, Row.alloc (Row.alloc (by with_reducible assumption) _) _⟩) | (with_reducible refine Row.other ?_ (by first | omega | (simp; done) | (simp; omega)) _)))
      have c_x_0_11 := R_x_11.cell 0 rfl
      have c_x_1_11 := R_x_11.cell 1 rfl
      have c_x_2_11 := R_x_11.cell 2 rfl
      have c_x_3_11 := R_x_11.cell 3 rfl
      have c_x_4_11 := R_x_11.cell 4 rfl
      have c_x_5_11 := R_x_11.cell 5 rfl
      have c_x_6_11 := R_x_11.cell 6 rfl
      have c_x_7_11 := R_x_11.cell 7 rfl
      have c_x_8_11 := R_x_11.cell 8 rfl
      have c_x_9_11 := R_x_11.cell 9 rfl
      have l_x_11 := R_x_11.lt
      have R_y_11 : Row w11 (w8.heap.size) [.int .i64 (0), .int .i64 (0), .int .i64 (0), .int .i64 (0), .int .i64 (0), .slice none 0 0, .int .i64 (0), .int .i64 (0), .int .i64 (0), .slice none 0 0] := by (repeat' (first | (with_reducible assumption) | (with_reducible refine Row.new' _ _ _ (by first | rfl | (simp; done) | omega)) | (with_reducible refine Row.alloc ?_ _) | (with_reducible refine Row.drew ?_) | (with_reducible refine Row.drewN ?_ _) | (with_reducible refine Row.step ?_ (by with_reducible assumption)) | (with_reducible refine Row.set2' ?_ _ _; first | exact ⟨_, _, by with_reducible assumption⟩ | exact ⟨_, _, Row.alloc (by with_reducible assumption) _⟩ | exact ⟨_, _, Row.alloc (Row.alloc (by with_reducible assumption) _) _⟩) | (with_reducible refine Row.other ?_ (by first | omega | (simp; done) | (simp; omega)) _)))
      have c_y_0_11 := R_y_11.cell 0 rfl
      have c_y_1_11 := R_y_11.cell 1 rfl
      have c_y_2_11 := R_y_11.cell 2 rfl
      have c_y_3_11 := R_y_11.cell 3 rfl
      have c_y_4_11 := R_y_11.cell 4 rfl
      have c_y_5_11 := R_y_11.cell 5 rfl
      have c_y_6_11 := R_y_11.cell 6 rfl
      have c_y_7_11 := R_y_11.cell 7 rfl
      have c_y_8_11 := R_y_11.cell 8 rfl
      have c_y_9_11 := R_y_11.cell 9 rfl
      have l_y_11 := R_y_11.lt
      replace K := K.step (show Below w10.heap.size w10 w11 by (repeat' (first | (with_reducible exact Below.refl _ _) | (with_reducible assumption) | (with_reducible exact Bw.out (by with_reducible assumption)) | (with_reducible refine bw_alloc ?_ _) | (with_reducible refine bw_step ?_ (by with_reducible assumption)) | (with_reducible refine Below.alloc ?_ ?_ _) | (with_reducible refine Below.drew ?_) | (with_reducible refine below_drewN ?_ _) | (with_reducible refine Below.setCell ?_ ?_ _) | (with_reducible refine below_step ?_ (by with_reducible assumption) ?_) | (with_reducible exact Nat.le_refl _) | omega | (simp; omega) | (simp; done))))
      have HB11 : Below w.heap.size w w11 := by (repeat' (first | (with_reducible exact Below.refl _ _) | (with_reducible assumption) | (with_reducible exact Bw.out (by with_reducible assumption)) | (with_reducible refine bw_alloc ?_ _) | (with_reducible refine bw_step ?_ (by with_reducible assumption)) | (with_reducible refine Below.alloc ?_ ?_ _) | (with_reducible refine Below.drew ?_) | (with_reducible refine below_drewN ?_ _) | (with_reducible refine Below.setCell ?_ ?_ _) | (with_reducible refine below_step ?_ (by with_reducible assumption) ?_) | (with_reducible exact Nat.le_refl _) | omega | (simp; omega) | (simp; done)))
      clear R_b_10 c_b_0_10 c_b_1_10 c_b_2_10 c_b_3_10 c_b_4_10 c_b_5_10 c_b_6_10 c_b_7_10 c_b_8_10 c_b_9_10 R_s_10 c_s_0_10 c_s_1_10 R_x_10 c_x_0_10 c_x_1_10 c_x_2_10 c_x_3_10 c_x_4_10 c_x_5_10 c_x_6_10 c_x_7_10 c_x_8_10 c_x_9_10 R_y_10 c_y_0_10 c_y_1_10 c_y_2_10 c_y_3_10 c_y_4_10 c_y_5_10 c_y_6_10 c_y_7_10 c_y_8_10 c_y_9_10 hb10 HB10
      go_wp2_with fail
      go_ret
      refine ⟨(by first | rfl | exact ret_bool (by first | rfl | (simp; done) | (simp; omega))), ?_⟩
      (repeat' (first | (with_reducible exact Below.refl _ _) | (with_reducible assumption) | (with_reducible exact Bw.out (by with_reducible assumption)) | (with_reducible refine bw_alloc ?_ _) | (with_reducible refine bw_step ?_ (by with_reducible assumption)) | (with_reducible refine Below.alloc ?_ ?_ _) | (with_reducible refine Below.drew ?_) | (with_reducible refine below_drewN ?_ _) | (with_reducible refine Below.setCell ?_ ?_ _) | (with_reducible refine below_step ?_ (by with_reducible assumption) ?_) | (with_reducible exact Nat.le_refl _) | omega | (simp; omega) | (simp; done)))


set_option maxRecDepth 100000 in
theorem groupMatchesReference_lifted (os : Os) (started : os.Started) (H : Type) (enc : TypeId × Value → H) :
    ReturnsInHanded {} Try.checked os 3 .any (Rows.groupMatchesReferenceSpec.pre6 enc Try.prog Try.f3 Rows.groupMatchesReferenceRow.domain false) (Rows.groupMatchesReferenceSpec.post enc Try.prog Try.f3 false true false false) := by
  refine returnsInHanded_of_change (C := Try.checked) own started (by kernel_rfl) Try.func3
    (ChangeSpec.witness6 (enc := enc) (C := Try.checked) false ⟨#[], #[.agg #[.int .i64 0, .int .i64 0, .int .i64 0, .int .i64 0, .int .i64 0, .slice none 0 0, .int .i64 0, .int .i64 0, .int .i64 0, .slice none 0 0], .int .i64 0, .int .i64 0, .agg #[.int .i64 0, .int .i64 0]], []⟩ 8 (by kernel_rfl) (by kernel_rfl) (by kernel_rfl) (by kernel_rfl)) ?_
  intro W base args ds gs before hval0 hW _ _
  have hval : ∀ (j : Nat) t v, Try.f3.params[j]? = some t → args[j]? = some v → Value.okWide Try.prog W .any base t v := hval0
  have hW' := hW
  obtain ⟨p, q, hA0, hV, rfl, hfz, hnd⟩ := hW
  obtain ⟨rfl, rfl⟩ := trodVars_none hV
  have hA : DataW.TrodAll enc Try.prog W 0 (fun _ => true) true Try.f3.params.toList args.toList ds p := hA0
  rw [Try.params3] at hA hval
  obtain ⟨v0, vs0, d0, ds0, p0, q0, hargs, rfl, rfl, h0, r0⟩ := trodAll_cons hA
  obtain ⟨v1, vs1, d1, ds1, p1, q1, rfl, rfl, rfl, h1, r1⟩ := trodAll_cons r0
  obtain ⟨v2, vs2, d2, ds2, p2, q2, rfl, rfl, rfl, h2, r2⟩ := trodAll_cons r1
  obtain ⟨v3, vs3, d3, ds3, p3, q3, rfl, rfl, rfl, h3, r3⟩ := trodAll_cons r2
  obtain ⟨rfl, rfl, rfl⟩ := trodAll_nil r3
  obtain rfl : args = #[v0, v1, v2, v3] := by cases args; simp_all
  obtain ⟨b, ca_b, cn_b, cc_b, pa_b, pm_b, pc_b, rfl, hs_b, wf_b⟩ := block_of (hval 0 29 v0 rfl rfl) h0
  obtain ⟨day, rfl, rfl, rfl, wday⟩ := open_int Try.underlying3 (hval 1 3 v1 rfl rfl) h1
  obtain ⟨n, rfl, rfl, rfl, wn⟩ := open_int Try.underlying3 (hval 2 3 v2 rfl rfl) h2
  obtain ⟨c30, c31, y30, y31, m3, rfl, rfl, rfl, hy30, hy31⟩ := Go.Joins.open_agg2 Try.underlying23 (by kernel_rfl) (by kernel_rfl) (hval 3 23 v3 rfl rfl) h3
  obtain ⟨s0, e30, rfl, ws0⟩ := DataW.trod_int Try.underlying3 hy30
  simp only [List.cons.injEq, and_true] at e30
  subst e30
  obtain ⟨s1, e31, rfl, ws1⟩ := DataW.trod_int Try.underlying3 hy31
  simp only [List.cons.injEq, and_true] at e31
  subst e31
  clear hA0 hval0
  refine (gmat_walk b _ _ _ _ _ _ day n s0 s1 wf_b wday wn ws0 ws1 W hs_b).mono fun e W' ⟨he, hb⟩ => ?_
  subst he
  exact ⟨_, rfl, law_post (B := 4) laidOut (by rw [Try.params3]; simp only [List.mem_cons, List.not_mem_nil, or_false, forall_eq_or_imp, forall_eq]; first | exact readable_groupMatchesReference | (repeat' apply And.intro) <;> first | exact of_decide_eq_true (by kernel_rfl) | kernel_rfl) rfl Try.underlying4 rfl rfl hW' hb⟩

theorem groupMatchesReference_over : Rows.groupMatchesReferenceRow.holds Try.pinned (OpenSpec.ofChange Rows.groupMatchesReferenceSpec) :=
  OpenClaim.holds_of_wide 3 Try.f3 rfl rfl rfl rfl rfl rfl rfl ⟨rfl, rfl, rfl, rfl, rfl⟩ rfl rfl rfl rfl rfl (by kernel_rfl) Try.func3 (by kernel_rfl)
    (of_decide_eq_true (by kernel_rfl)) (by unfold Func.isWrapper; first | (rw [if_pos (by decide +kernel)]; kernel_rfl) | (rw [if_neg (by decide +kernel)]; exact ⟨rfl, rfl⟩))
    (fun os started H enc _ => groupMatchesReference_lifted os started H enc)

theorem groupMatchesReference_holds : Rows.GroupMatchesReferenceSaid := groupMatchesReference_over
#print axioms groupMatchesReference_holds
end Go.Proofs.Ytnnfoedlmeamgaa
