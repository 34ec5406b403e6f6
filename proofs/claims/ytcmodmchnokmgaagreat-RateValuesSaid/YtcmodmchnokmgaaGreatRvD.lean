/-
 RateValues: the value of an expression is that of its operator for the values of its parts; its error is the first one of these, or that of the operator.
 No condition: for every input (what is not few, or not well-formed, is not looked at).
-/
import Derived.Test.YtcmodmchnokmgaaGreatRvC
import Derived.Test.YtcmodmchnokmgaaGreatMG
namespace Go.Proofs.YtcmodmchnokmgaaGreat
set_option linter.unusedSimpArgs false
set_option linter.unusedVariables false
open Go.ChangeShapes Go.WideShapes Go.ChangeAt Go.RowKit
theorem evalV_of {x : Ex} {a b c d : Int} (hv : validE x = true) (ht : x.ty ≠ 0) (hb : varsB a b c d = true) : evalV x a b c d = x.ev (var4 a b c d) := by
 unfold evalV; rw [if_pos (by rw [hv, hb]; simp [ht])]
theorem evalV_kid {x y : Ex} {a b c d : Int} {k : Nat} (hv : validE x = true) (ht : x.ty ≠ 0) (hy : x.ks[k]? = some y) (hb : varsB a b c d = true) : evalV y a b c d = y.ev (var4 a b c d) :=
 evalV_of (validE_kid hv hy) (ty_kid ht hy) hb
theorem valid8_p (x : Ex) (w : World) (h : x.In w) (p : Bool) (hp : validE x = p) :
  Calls Tryz.prog 17 #[.agg #[.int .i64 x.op, .int .i64 x.n, .slice x.at' x.ks.length x.cap]] w fun e w' => e = .returned (.bool p) ∧ Below w.heap.size w w' := by
 subst hp; exact R_valid8 x w h
set_option maxRecDepth 100000 in
set_option maxHeartbeats 12800000 in
theorem values_walk0 (op n : Int) (ad : Option Addr) (cap : Nat) (ks : List Ex) (v0 v1 v2 v3 : Int) (w : World) (hx : (Ex.node op n ad cap ks).In w) :
  Calls Tryz.prog 4 #[.agg #[.int .i64 op, .int .i64 n, .slice ad ks.length cap], .agg #[.int .i64 v0, .int .i64 v1, .int .i64 v2, .int .i64 v3]] w fun e w' => e = .returned (.bool true) ∧ Below w.heap.size w w' := by
 obtain ⟨x, hxe⟩ : ∃ x, x = Ex.node op n ad cap ks := ⟨_, rfl⟩
 have HXE := Lib.hid hxe
 have HIN : Hid (Ex.In w (.node op n ad cap ks)) := hx
 obtain ⟨p1, hp⟩ : ∃ p, fewE (.node op n ad cap ks) = p := ⟨_, rfl⟩
 have P1 := Lib.hid hp
 clear hp
 obtain ⟨p2, hp⟩ : ∃ p, validE (.node op n ad cap ks) = p := ⟨_, rfl⟩
 have P2 := Lib.hid hp
 clear hp
 obtain ⟨p3, hp⟩ : ∃ p, varsB v0 v1 v2 v3 = p := ⟨_, rfl⟩
 have P3 := Lib.hid hp
 clear hp
 obtain ⟨T, hp⟩ : ∃ p, (Ex.node op n ad cap ks).ty = p := ⟨_, rfl⟩
 have PT := Lib.hid hp
 clear hp hxe hx
 go_enter Tryz.func4, Tryz.ntmps4
 go_wp2_with fail
 refine (head_any _).mono ?_
 rintro e w1 ⟨rfl, hb1⟩
 have R_e_1 : Row w1 (w.heap.size) [.int .i64 op, .int .i64 n, .slice ad ks.length cap] := by (repeat' (first | (with_reducible assumption) | (with_reducible refine Row.new' _ _ _ (by first | rfl | (simp; done) | omega)) | (with_reducible first | refine Row.alloc ?_ _ | refine Row.drew ?_ | refine Row.step ?_ (by assumption) | refine Row.drewN ?_ _) | (with_reducible refine Row.set2' ?_ _ _; first | exact ⟨_, _, by assumption⟩ | exact ⟨_, _, Row.alloc (by assumption) _⟩) | (with_reducible refine Row.other ?_ (by first | omega | (simp; omega)) _)))
 have c_e_0_1 := R_e_1.cell 0 rfl
 have c_e_1_1 := R_e_1.cell 1 rfl
 have c_e_2_1 := R_e_1.cell 2 rfl
 have l_e_1 := R_e_1.lt
 have R_v_1 : Row w1 (w.heap.size + 1) [.int .i64 (v0), .int .i64 (v1), .int .i64 (v2), .int .i64 (v3)] := by (repeat' (first | (with_reducible assumption) | (with_reducible refine Row.new' _ _ _ (by first | rfl | (simp; done) | omega)) | (with_reducible first | refine Row.alloc ?_ _ | refine Row.drew ?_ | refine Row.step ?_ (by assumption) | refine Row.drewN ?_ _) | (with_reducible refine Row.set2' ?_ _ _; first | exact ⟨_, _, by assumption⟩ | exact ⟨_, _, Row.alloc (by assumption) _⟩) | (with_reducible refine Row.other ?_ (by first | omega | (simp; omega)) _)))
 have c_v_0_1 := R_v_1.cell 0 rfl
 have c_v_1_1 := R_v_1.cell 1 rfl
 have c_v_2_1 := R_v_1.cell 2 rfl
 have c_v_3_1 := R_v_1.cell 3 rfl
 have l_v_1 := R_v_1.lt
 have HB1 : Below w.heap.size w w1 := by (repeat' (first | (with_reducible first | exact Below.refl _ _ | assumption | exact Bw.out (by assumption) | refine bw_alloc ?_ _ | refine bw_step ?_ (by assumption) | refine Below.alloc ?_ ?_ _ | refine Below.drew ?_ | refine below_drewN ?_ _ | refine Below.setCell ?_ ?_ _ | refine below_step ?_ (by assumption) ?_ | exact Nat.le_refl _) | omega | (simp; omega) | (simp; done)))
 go_wp2_with fail
 refine (R_few_p (.node op n ad cap ks) _ (HIN.out.step HB1) p1 P1.out).mono ?_
 rintro e w2 ⟨rfl, hb2⟩
 have R_e_2 : Row w2 (w.heap.size) [.int .i64 op, .int .i64 n, .slice ad ks.length cap] := by (repeat' (first | (with_reducible assumption) | (with_reducible refine Row.new' _ _ _ (by first | rfl | (simp; done) | omega)) | (with_reducible first | refine Row.alloc ?_ _ | refine Row.drew ?_ | refine Row.step ?_ (by assumption) | refine Row.drewN ?_ _) | (with_reducible refine Row.set2' ?_ _ _; first | exact ⟨_, _, by assumption⟩ | exact ⟨_, _, Row.alloc (by assumption) _⟩) | (with_reducible refine Row.other ?_ (by first | omega | (simp; omega)) _)))
 have c_e_0_2 := R_e_2.cell 0 rfl
 have c_e_1_2 := R_e_2.cell 1 rfl
 have c_e_2_2 := R_e_2.cell 2 rfl
 have l_e_2 := R_e_2.lt
 have R_v_2 : Row w2 (w.heap.size + 1) [.int .i64 (v0), .int .i64 (v1), .int .i64 (v2), .int .i64 (v3)] := by (repeat' (first | (with_reducible assumption) | (with_reducible refine Row.new' _ _ _ (by first | rfl | (simp; done) | omega)) | (with_reducible first | refine Row.alloc ?_ _ | refine Row.drew ?_ | refine Row.step ?_ (by assumption) | refine Row.drewN ?_ _) | (with_reducible refine Row.set2' ?_ _ _; first | exact ⟨_, _, by assumption⟩ | exact ⟨_, _, Row.alloc (by assumption) _⟩) | (with_reducible refine Row.other ?_ (by first | omega | (simp; omega)) _)))
 have c_v_0_2 := R_v_2.cell 0 rfl
 have c_v_1_2 := R_v_2.cell 1 rfl
 have c_v_2_2 := R_v_2.cell 2 rfl
 have c_v_3_2 := R_v_2.cell 3 rfl
 have l_v_2 := R_v_2.lt
 have HB2 : Below w.heap.size w w2 := by (repeat' (first | (with_reducible first | exact Below.refl _ _ | assumption | exact Bw.out (by assumption) | refine bw_alloc ?_ _ | refine bw_step ?_ (by assumption) | refine Below.alloc ?_ ?_ _ | refine Below.drew ?_ | refine below_drewN ?_ _ | refine Below.setCell ?_ ?_ _ | refine below_step ?_ (by assumption) ?_ | exact Nat.le_refl _) | omega | (simp; omega) | (simp; done)))
 clear R_e_1 c_e_0_1 c_e_1_1 c_e_2_1 R_v_1 c_v_0_1 c_v_1_1 c_v_2_1 c_v_3_1 hb1 HB1
 cases p1 with
 | false =>
  go_wp2_with fail
  go_ret
  refine ⟨(by first | rfl | exact ret_bool (by first | rfl | (simp; done) | (simp; omega))), ?_⟩
  (repeat' (first | (with_reducible first | exact Below.refl _ _ | assumption | exact Bw.out (by assumption) | refine bw_alloc ?_ _ | refine bw_step ?_ (by assumption) | refine Below.alloc ?_ ?_ _ | refine Below.drew ?_ | refine below_drewN ?_ _ | refine Below.setCell ?_ ?_ _ | refine below_step ?_ (by assumption) ?_ | exact Nat.le_refl _) | omega | (simp; omega) | (simp; done)))
 | true =>
  go_wp2_with fail
  refine (valid8_p (.node op n ad cap ks) _ (HIN.out.step HB2) p2 P2.out).mono ?_
  rintro e w3 ⟨rfl, hb3⟩
  have R_e_3 : Row w3 (w.heap.size) [.int .i64 op, .int .i64 n, .slice ad ks.length cap] := by (repeat' (first | (with_reducible assumption) | (with_reducible refine Row.new' _ _ _ (by first | rfl | (simp; done) | omega)) | (with_reducible first | refine Row.alloc ?_ _ | refine Row.drew ?_ | refine Row.step ?_ (by assumption) | refine Row.drewN ?_ _) | (with_reducible refine Row.set2' ?_ _ _; first | exact ⟨_, _, by assumption⟩ | exact ⟨_, _, Row.alloc (by assumption) _⟩) | (with_reducible refine Row.other ?_ (by first | omega | (simp; omega)) _)))
  have c_e_0_3 := R_e_3.cell 0 rfl
  have c_e_1_3 := R_e_3.cell 1 rfl
  have c_e_2_3 := R_e_3.cell 2 rfl
  have l_e_3 := R_e_3.lt
  have R_v_3 : Row w3 (w.heap.size + 1) [.int .i64 (v0), .int .i64 (v1), .int .i64 (v2), .int .i64 (v3)] := by (repeat' (first | (with_reducible assumption) | (with_reducible refine Row.new' _ _ _ (by first | rfl | (simp; done) | omega)) | (with_reducible first | refine Row.alloc ?_ _ | refine Row.drew ?_ | refine Row.step ?_ (by assumption) | refine Row.drewN ?_ _) | (with_reducible refine Row.set2' ?_ _ _; first | exact ⟨_, _, by assumption⟩ | exact ⟨_, _, Row.alloc (by assumption) _⟩) | (with_reducible refine Row.other ?_ (by first | omega | (simp; omega)) _)))
  have c_v_0_3 := R_v_3.cell 0 rfl
  have c_v_1_3 := R_v_3.cell 1 rfl
  have c_v_2_3 := R_v_3.cell 2 rfl
  have c_v_3_3 := R_v_3.cell 3 rfl
  have l_v_3 := R_v_3.lt
  have HB3 : Below w.heap.size w w3 := by (repeat' (first | (with_reducible first | exact Below.refl _ _ | assumption | exact Bw.out (by assumption) | refine bw_alloc ?_ _ | refine bw_step ?_ (by assumption) | refine Below.alloc ?_ ?_ _ | refine Below.drew ?_ | refine below_drewN ?_ _ | refine Below.setCell ?_ ?_ _ | refine below_step ?_ (by assumption) ?_ | exact Nat.le_refl _) | omega | (simp; omega) | (simp; done)))
  clear R_e_2 c_e_0_2 c_e_1_2 c_e_2_2 R_v_2 c_v_0_2 c_v_1_2 c_v_2_2 c_v_3_2 hb2 HB2
  cases p2 with
  | false =>
   go_wp2_with fail
   go_ret
   refine ⟨(by first | rfl | exact ret_bool (by first | rfl | (simp; done) | (simp; omega))), ?_⟩
   (repeat' (first | (with_reducible first | exact Below.refl _ _ | assumption | exact Bw.out (by assumption) | refine bw_alloc ?_ _ | refine bw_step ?_ (by assumption) | refine Below.alloc ?_ ?_ _ | refine Below.drew ?_ | refine below_drewN ?_ _ | refine Below.setCell ?_ ?_ _ | refine below_step ?_ (by assumption) ?_ | exact Nat.le_refl _) | omega | (simp; omega) | (simp; done)))
  | true =>
   go_wp2_with fail
   refine (R_varsB_p v0 v1 v2 v3 p3 P3.out _).mono ?_
   rintro e w4 ⟨rfl, hb4⟩
   have R_e_4 : Row w4 (w.heap.size) [.int .i64 op, .int .i64 n, .slice ad ks.length cap] := by (repeat' (first | (with_reducible assumption) | (with_reducible refine Row.new' _ _ _ (by first | rfl | (simp; done) | omega)) | (with_reducible first | refine Row.alloc ?_ _ | refine Row.drew ?_ | refine Row.step ?_ (by assumption) | refine Row.drewN ?_ _) | (with_reducible refine Row.set2' ?_ _ _; first | exact ⟨_, _, by assumption⟩ | exact ⟨_, _, Row.alloc (by assumption) _⟩) | (with_reducible refine Row.other ?_ (by first | omega | (simp; omega)) _)))
   have c_e_0_4 := R_e_4.cell 0 rfl
   have c_e_1_4 := R_e_4.cell 1 rfl
   have c_e_2_4 := R_e_4.cell 2 rfl
   have l_e_4 := R_e_4.lt
   have R_v_4 : Row w4 (w.heap.size + 1) [.int .i64 (v0), .int .i64 (v1), .int .i64 (v2), .int .i64 (v3)] := by (repeat' (first | (with_reducible assumption) | (with_reducible refine Row.new' _ _ _ (by first | rfl | (simp; done) | omega)) | (with_reducible first | refine Row.alloc ?_ _ | refine Row.drew ?_ | refine Row.step ?_ (by assumption) | refine Row.drewN ?_ _) | (with_reducible refine Row.set2' ?_ _ _; first | exact ⟨_, _, by assumption⟩ | exact ⟨_, _, Row.alloc (by assumption) _⟩) | (with_reducible refine Row.other ?_ (by first | omega | (simp; omega)) _)))
   have c_v_0_4 := R_v_4.cell 0 rfl
   have c_v_1_4 := R_v_4.cell 1 rfl
   have c_v_2_4 := R_v_4.cell 2 rfl
   have c_v_3_4 := R_v_4.cell 3 rfl
   have l_v_4 := R_v_4.lt
   have HB4 : Below w.heap.size w w4 := by (repeat' (first | (with_reducible first | exact Below.refl _ _ | assumption | exact Bw.out (by assumption) | refine bw_alloc ?_ _ | refine bw_step ?_ (by assumption) | refine Below.alloc ?_ ?_ _ | refine Below.drew ?_ | refine below_drewN ?_ _ | refine Below.setCell ?_ ?_ _ | refine below_step ?_ (by assumption) ?_ | exact Nat.le_refl _) | omega | (simp; omega) | (simp; done)))
   clear R_e_3 c_e_0_3 c_e_1_3 c_e_2_3 R_v_3 c_v_0_3 c_v_1_3 c_v_2_3 c_v_3_3 hb3 HB3
   cases p3 with
   | false =>
    go_wp2_with fail
    go_ret
    refine ⟨(by first | rfl | exact ret_bool (by first | rfl | (simp; done) | (simp; omega))), ?_⟩
    (repeat' (first | (with_reducible first | exact Below.refl _ _ | assumption | exact Bw.out (by assumption) | refine bw_alloc ?_ _ | refine bw_step ?_ (by assumption) | refine Below.alloc ?_ ?_ _ | refine Below.drew ?_ | refine below_drewN ?_ _ | refine Below.setCell ?_ ?_ _ | refine below_step ?_ (by assumption) ?_ | exact Nat.le_refl _) | omega | (simp; omega) | (simp; done)))
   | true =>
    by_cases hm : ks.length = 0
    ·
     have hm' : ((ks.length : Int) == 0) = true := by simp [hm]
     clear hm
     go_wp2_with fail
     go_ret
     refine ⟨(by first | rfl | exact ret_bool (by first | rfl | (simp; done) | (simp; omega))), ?_⟩
     (repeat' (first | (with_reducible first | exact Below.refl _ _ | assumption | exact Bw.out (by assumption) | refine bw_alloc ?_ _ | refine bw_step ?_ (by assumption) | refine Below.alloc ?_ ?_ _ | refine Below.drew ?_ | refine below_drewN ?_ _ | refine Below.setCell ?_ ?_ _ | refine below_step ?_ (by assumption) ?_ | exact Nat.le_refl _) | omega | (simp; omega) | (simp; done)))
    ·
     have hm' : ((ks.length : Int) == 0) = false := by simpa using hm
     have HM := Lib.hid hm
     clear hm
     go_wp2_with fail
     refine (R_type_p (.node op n ad cap ks) _ (HIN.out.step HB4) P2.out T PT.out).mono ?_
     rintro e w5 ⟨rfl, hb5⟩
     have R_e_5 : Row w5 (w.heap.size) [.int .i64 op, .int .i64 n, .slice ad ks.length cap] := by (repeat' (first | (with_reducible assumption) | (with_reducible refine Row.new' _ _ _ (by first | rfl | (simp; done) | omega)) | (with_reducible first | refine Row.alloc ?_ _ | refine Row.drew ?_ | refine Row.step ?_ (by assumption) | refine Row.drewN ?_ _) | (with_reducible refine Row.set2' ?_ _ _; first | exact ⟨_, _, by assumption⟩ | exact ⟨_, _, Row.alloc (by assumption) _⟩) | (with_reducible refine Row.other ?_ (by first | omega | (simp; omega)) _)))
     have c_e_0_5 := R_e_5.cell 0 rfl
     have c_e_1_5 := R_e_5.cell 1 rfl
     have c_e_2_5 := R_e_5.cell 2 rfl
     have l_e_5 := R_e_5.lt
     have R_v_5 : Row w5 (w.heap.size + 1) [.int .i64 (v0), .int .i64 (v1), .int .i64 (v2), .int .i64 (v3)] := by (repeat' (first | (with_reducible assumption) | (with_reducible refine Row.new' _ _ _ (by first | rfl | (simp; done) | omega)) | (with_reducible first | refine Row.alloc ?_ _ | refine Row.drew ?_ | refine Row.step ?_ (by assumption) | refine Row.drewN ?_ _) | (with_reducible refine Row.set2' ?_ _ _; first | exact ⟨_, _, by assumption⟩ | exact ⟨_, _, Row.alloc (by assumption) _⟩) | (with_reducible refine Row.other ?_ (by first | omega | (simp; omega)) _)))
     have c_v_0_5 := R_v_5.cell 0 rfl
     have c_v_1_5 := R_v_5.cell 1 rfl
     have c_v_2_5 := R_v_5.cell 2 rfl
     have c_v_3_5 := R_v_5.cell 3 rfl
     have l_v_5 := R_v_5.lt
     have HB5 : Below w.heap.size w w5 := by (repeat' (first | (with_reducible first | exact Below.refl _ _ | assumption | exact Bw.out (by assumption) | refine bw_alloc ?_ _ | refine bw_step ?_ (by assumption) | refine Below.alloc ?_ ?_ _ | refine Below.drew ?_ | refine below_drewN ?_ _ | refine Below.setCell ?_ ?_ _ | refine below_step ?_ (by assumption) ?_ | exact Nat.le_refl _) | omega | (simp; omega) | (simp; done)))
     clear R_e_4 c_e_0_4 c_e_1_4 c_e_2_4 R_v_4 c_v_0_4 c_v_1_4 c_v_2_4 c_v_3_4 hb4 HB4
     by_cases hT : T = 0
     ·
      have hT' : (T == 0) = true := by simpa using hT
      clear hT
      go_wp2_with fail
      go_ret
      refine ⟨(by first | rfl | exact ret_bool (by first | rfl | (simp; done) | (simp; omega))), ?_⟩
      (repeat' (first | (with_reducible first | exact Below.refl _ _ | assumption | exact Bw.out (by assumption) | refine bw_alloc ?_ _ | refine bw_step ?_ (by assumption) | refine Below.alloc ?_ ?_ _ | refine Below.drew ?_ | refine below_drewN ?_ _ | refine Below.setCell ?_ ?_ _ | refine below_step ?_ (by assumption) ?_ | exact Nat.le_refl _) | omega | (simp; omega) | (simp; done)))
     ·
      have hT' : (T == 0) = false := by simpa using hT
      have P4 : Hid ((Ex.node op n ad cap ks).ty ≠ 0) := by show _ ≠ _; rw [PT.out]; exact hT
      clear hT
      obtain ⟨N, D, E, hev⟩ : ∃ N D E, (Ex.node op n ad cap ks).ev (var4 v0 v1 v2 v3) = (N, D, E) := ⟨_, _, _, rfl⟩
      have HR := Lib.hid hev
      have HEV : Hid (evalV (.node op n ad cap ks) v0 v1 v2 v3 = (N, D, E)) := by show _ = _; rw [evalV_of P2.out P4.out P3.out]; exact hev
      have hnb := nodeB_op (ok_node (validE_ok P2.out)).1
      obtain ⟨o1, o2, o3⟩ := hnb
      have o4 : 4 ≤ op := by
       have h := HM.out
       have hn := (ok_node (validE_ok P2.out)).1
       unfold nodeB at hn
       by_cases q : 4 ≤ op
       ·
        exact q
       ·
        exfalso
        have hop : (Ex.node op n ad cap ks).op = op := rfl
        have hks : (Ex.node op n ad cap ks).ks.length = ks.length := rfl
        rw [hop, hks] at hn
        have hc : op = 1 ∨ op = 2 ∨ op = 3 := by
         have h1 : 1 ≤ op := o1
         omega
        rcases hc with e | e | e <;> subst e <;> (simp at hn; exact h (by rw [hn.1]; rfl))
      obtain ⟨k1, k2, k3⟩ := kidN_ge o4 o2
      have o3' : ks.length = kidN op := o3
      rw [← o3'] at k1 k2 k3
      clear hev o3 o3'
      go_wp2_with fail
      refine (eval_p (.node op n ad cap ks) v0 v1 v2 v3 _ (HIN.out.step HB5) N D E HEV.out).mono ?_
      rintro e w6 ⟨rfl, hb6⟩
      have R_e_6 : Row w6 (w.heap.size) [.int .i64 op, .int .i64 n, .slice ad ks.length cap] := by (repeat' (first | (with_reducible assumption) | (with_reducible refine Row.new' _ _ _ (by first | rfl | (simp; done) | omega)) | (with_reducible first | refine Row.alloc ?_ _ | refine Row.drew ?_ | refine Row.step ?_ (by assumption) | refine Row.drewN ?_ _) | (with_reducible refine Row.set2' ?_ _ _; first | exact ⟨_, _, by assumption⟩ | exact ⟨_, _, Row.alloc (by assumption) _⟩) | (with_reducible refine Row.other ?_ (by first | omega | (simp; omega)) _)))
      have c_e_0_6 := R_e_6.cell 0 rfl
      have c_e_1_6 := R_e_6.cell 1 rfl
      have c_e_2_6 := R_e_6.cell 2 rfl
      have l_e_6 := R_e_6.lt
      have R_v_6 : Row w6 (w.heap.size + 1) [.int .i64 (v0), .int .i64 (v1), .int .i64 (v2), .int .i64 (v3)] := by (repeat' (first | (with_reducible assumption) | (with_reducible refine Row.new' _ _ _ (by first | rfl | (simp; done) | omega)) | (with_reducible first | refine Row.alloc ?_ _ | refine Row.drew ?_ | refine Row.step ?_ (by assumption) | refine Row.drewN ?_ _) | (with_reducible refine Row.set2' ?_ _ _; first | exact ⟨_, _, by assumption⟩ | exact ⟨_, _, Row.alloc (by assumption) _⟩) | (with_reducible refine Row.other ?_ (by first | omega | (simp; omega)) _)))
      have c_v_0_6 := R_v_6.cell 0 rfl
      have c_v_1_6 := R_v_6.cell 1 rfl
      have c_v_2_6 := R_v_6.cell 2 rfl
      have c_v_3_6 := R_v_6.cell 3 rfl
      have l_v_6 := R_v_6.lt
      have HB6 : Below w.heap.size w w6 := by (repeat' (first | (with_reducible first | exact Below.refl _ _ | assumption | exact Bw.out (by assumption) | refine bw_alloc ?_ _ | refine bw_step ?_ (by assumption) | refine Below.alloc ?_ ?_ _ | refine Below.drew ?_ | refine below_drewN ?_ _ | refine Below.setCell ?_ ?_ _ | refine below_step ?_ (by assumption) ?_ | exact Nat.le_refl _) | omega | (simp; omega) | (simp; done)))
      clear R_e_5 c_e_0_5 c_e_1_5 c_e_2_5 R_v_5 c_v_0_5 c_v_1_5 c_v_2_5 c_v_3_5 hb5 HB5
      go_upto_region 5 with fail
      obtain ⟨w7, hw7⟩ : ∃ x, World.alloc w6 (.cells #[.int .i64 N, .int .i64 D] 33) = x := ⟨_, rfl⟩
      rw [hw7]
      have hb7 : Below w6.heap.size w6 w7 := by rw [← hw7]; (repeat' (first | (with_reducible first | exact Below.refl _ _ | assumption | exact Bw.out (by assumption) | refine bw_alloc ?_ _ | refine bw_step ?_ (by assumption) | refine Below.alloc ?_ ?_ _ | refine Below.drew ?_ | refine below_drewN ?_ _ | refine Below.setCell ?_ ?_ _ | refine below_step ?_ (by assumption) ?_ | exact Nat.le_refl _) | omega | (simp; omega) | (simp; done)))
      have R_e_7 : Row w7 (w.heap.size) [.int .i64 op, .int .i64 n, .slice ad ks.length cap] := by rw [← hw7]; (repeat' (first | (with_reducible assumption) | (with_reducible refine Row.new' _ _ _ (by first | rfl | (simp; done) | omega)) | (with_reducible first | refine Row.alloc ?_ _ | refine Row.drew ?_ | refine Row.step ?_ (by assumption) | refine Row.drewN ?_ _) | (with_reducible refine Row.set2' ?_ _ _; first | exact ⟨_, _, by assumption⟩ | exact ⟨_, _, Row.alloc (by assumption) _⟩) | (with_reducible refine Row.other ?_ (by first | omega | (simp; omega)) _)))
      have c_e_0_7 := R_e_7.cell 0 rfl
      have c_e_1_7 := R_e_7.cell 1 rfl
      have c_e_2_7 := R_e_7.cell 2 rfl
      have l_e_7 := R_e_7.lt
      have R_v_7 : Row w7 (w.heap.size + 1) [.int .i64 (v0), .int .i64 (v1), .int .i64 (v2), .int .i64 (v3)] := by rw [← hw7]; (repeat' (first | (with_reducible assumption) | (with_reducible refine Row.new' _ _ _ (by first | rfl | (simp; done) | omega)) | (with_reducible first | refine Row.alloc ?_ _ | refine Row.drew ?_ | refine Row.step ?_ (by assumption) | refine Row.drewN ?_ _) | (with_reducible refine Row.set2' ?_ _ _; first | exact ⟨_, _, by assumption⟩ | exact ⟨_, _, Row.alloc (by assumption) _⟩) | (with_reducible refine Row.other ?_ (by first | omega | (simp; omega)) _)))
      have c_v_0_7 := R_v_7.cell 0 rfl
      have c_v_1_7 := R_v_7.cell 1 rfl
      have c_v_2_7 := R_v_7.cell 2 rfl
      have c_v_3_7 := R_v_7.cell 3 rfl
      have l_v_7 := R_v_7.lt
      have R_r_7 : Row w7 (w6.heap.size) [.int .i64 (N), .int .i64 (D)] := by rw [← hw7]; (repeat' (first | (with_reducible assumption) | (with_reducible refine Row.new' _ _ _ (by first | rfl | (simp; done) | omega)) | (with_reducible first | refine Row.alloc ?_ _ | refine Row.drew ?_ | refine Row.step ?_ (by assumption) | refine Row.drewN ?_ _) | (with_reducible refine Row.set2' ?_ _ _; first | exact ⟨_, _, by assumption⟩ | exact ⟨_, _, Row.alloc (by assumption) _⟩) | (with_reducible refine Row.other ?_ (by first | omega | (simp; omega)) _)))
      have c_r_0_7 := R_r_7.cell 0 rfl
      have c_r_1_7 := R_r_7.cell 1 rfl
      have l_r_7 := R_r_7.lt
      have HB7 := HB6.trans (hb7.mono HB6.size)
      have hs7 := hb7.size
      have hz7 := HB7.size
      clear R_e_6 c_e_0_6 c_e_1_6 c_e_2_6 R_v_6 c_v_0_6 c_v_1_6 c_v_2_6 c_v_3_6 hb6 HB6
      obtain ⟨b, off, rfl⟩ : ∃ b off, ad = some ⟨b, off, none⟩ := by
       obtain ⟨_, b, off, _, _, e, _⟩ := HIN.out.kidAt (Below.refl _ w) (k := 0) (by show 0 < ks.length; omega)
       exact ⟨b, off, e⟩
      have hlen0 : 0 < ks.length := by omega
      obtain ⟨y, b', off', hy, hyin, e', hly, d0, d1, d2⟩ := HIN.out.kidAt (Below.refl _ w) (k := 0) (by show 0 < ks.length; omega)
      cases e'
      obtain ⟨ya, yb, ye, hyv⟩ : ∃ a b e, y.ev (var4 v0 v1 v2 v3) = (a, b, e) := ⟨_, _, _, rfl⟩
      have HyV := Lib.hid hyv
      have HYV : Hid (evalV y v0 v1 v2 v3 = (ya, yb, ye)) := by
       show _ = _
       rw [← hyv]
       exact evalV_kid P2.out P4.out hy.out P3.out
      have HYI := Lib.hid (hyin.step HB7)
      have HS : Hid (∀ W, Below w7.heap.size w7 W → RdR w.heap.size v0 v1 v2 v3 op n b off ks.length cap (off) (off + 1) (off + 2) y W) := fun W h =>
       ⟨⟨(R_e_7.step h).cell 0 rfl, (R_e_7.step h).cell 1 rfl, (R_e_7.step h).cell 2 rfl⟩, ⟨(R_v_7.step h).cell 0 rfl, (R_v_7.step h).cell 1 rfl, (R_v_7.step h).cell 2 rfl, (R_v_7.step h).cell 3 rfl⟩,
        ((HB7.trans (h.mono HB7.size)).cell (p := ⟨b, _, none⟩) hly).trans d0, ((HB7.trans (h.mono HB7.size)).cell (p := ⟨b, _, none⟩) hly).trans d1, ((HB7.trans (h.mono HB7.size)).cell (p := ⟨b, _, none⟩) hly).trans d2⟩
      clear hyin d0 d1 d2 hyv
      go_upto_region 5 with fail
      go_cut [8, 9] from 51 to 59 (fun v u wx => ∃ A : Nat, v = .pointer (some ⟨A, 0, none⟩) ∧ u = .int .i64 ye ∧ Row wx A [.int .i64 ya, .int .i64 yb] ∧ Below w7.heap.size w7 wx)
      case first =>
       refine AnyJ.beginP (RdR w.heap.size v0 v1 v2 v3 op n b off ks.length cap (off) (off + 1) (off + 2) y) (fun j => decide (j ≤ 10)) (by kernel_rfl) (HS.out _ (Below.refl _ _).drew) (fun hS => ?_)
       obtain ⟨u2, hu2⟩ : ∃ X, World.drew w7 = X := ⟨_, rfl⟩
       have hbu2 : Below w7.heap.size w7 u2 := by rw [← hu2]; exact (Below.refl _ _).drew
       rw [hu2] at hS ⊢
       clear hu2
       refine AnyJ.takeD (i := 0) (d := some 52) (v := ?_) rfl (by kernel_rfl) (by kernel_rfl) (by kernel_rfl) (by kernel_rfl) (by kernel_rfl) (fun _ _ _ h => h) (Or.inl ⟨by kernel_rfl, ?_⟩) hS ?_
       rotate_left
       ·
        intro w' hS
        obtain ⟨⟨sE0, sE1, sE2⟩, ⟨sV0, sV1, sV2, sV3⟩, sK0, sK1, sK2⟩ := hS
        go_simp
        try with_reducible rfl
       refine AnyJ.takeD (i := 1) (d := some 53) (v := ?_) rfl (by kernel_rfl) (by kernel_rfl) (by kernel_rfl) (by kernel_rfl) (by kernel_rfl) (fun _ _ _ h => h) (Or.inl ⟨by kernel_rfl, ?_⟩) hS ?_
       rotate_left
       ·
        intro w' hS
        obtain ⟨⟨sE0, sE1, sE2⟩, ⟨sV0, sV1, sV2, sV3⟩, sK0, sK1, sK2⟩ := hS
        go_simp
        try with_reducible rfl
       refine AnyJ.takeD (i := 2) (d := some 54) (v := ?_) rfl (by kernel_rfl) (by kernel_rfl) (by kernel_rfl) (by kernel_rfl) (by kernel_rfl) (fun _ _ _ h => h) (Or.inl ⟨by kernel_rfl, ?_⟩) hS ?_
       rotate_left
       ·
        intro w' hS
        obtain ⟨⟨sE0, sE1, sE2⟩, ⟨sV0, sV1, sV2, sV3⟩, sK0, sK1, sK2⟩ := hS
        go_simp
        try with_reducible rfl
       refine AnyJ.takeD (i := 3) (d := some 55) (v := ?_) rfl (by kernel_rfl) (by kernel_rfl) (by kernel_rfl) (by kernel_rfl) (by kernel_rfl) (fun _ _ _ h => h) (Or.inl ⟨by kernel_rfl, ?_⟩) hS ?_
       rotate_left
       ·
        intro w' hS
        obtain ⟨⟨sE0, sE1, sE2⟩, ⟨sV0, sV1, sV2, sV3⟩, sK0, sK1, sK2⟩ := hS
        go_simp
        try with_reducible rfl
       refine AnyJ.takeD (i := 4) (d := some 56) (v := ?_) rfl (by kernel_rfl) (by kernel_rfl) (by kernel_rfl) (by kernel_rfl) (by kernel_rfl) (fun _ _ _ h => h) (Or.inl ⟨by kernel_rfl, ?_⟩) hS ?_
       rotate_left
       ·
        intro w' hS
        obtain ⟨⟨sE0, sE1, sE2⟩, ⟨sV0, sV1, sV2, sV3⟩, sK0, sK1, sK2⟩ := hS
        go_simp
        try with_reducible rfl
       clear hS
       refine AnyJ.two (i := 5) (j := 9) (by kernel_rfl) rfl rfl (fun Kz hKz => ?_) (fun Kz hKz => ?_)
       ·
        go_simp
        refine (eval_p y v0 v1 v2 v3 u2 (HYI.out.step hbu2) ya yb ye HYV.out).mono ?_
        rintro e u3 ⟨rfl, hsu3⟩
        have hbu3 : Below w7.heap.size w7 u3 := hbu2.trans (hsu3.mono hbu2.size)
        have hS := HS.out _ hbu3
        refine hKz _ _ (fun _ => hS) ?_
        clear hKz Kz
        refine AnyJ.takeD (i := 6) (d := some 51) (v := ?_) rfl (by kernel_rfl) (by kernel_rfl) (by kernel_rfl) (by kernel_rfl) (by kernel_rfl) (fun _ _ _ h => h) (Or.inl ⟨by kernel_rfl, ?_⟩) hS ?_
        rotate_left
        ·
         intro w' hS
         obtain ⟨⟨sE0, sE1, sE2⟩, ⟨sV0, sV1, sV2, sV3⟩, sK0, sK1, sK2⟩ := hS
         go_simp
         try with_reducible rfl
        refine AnyJ.takeD (i := 7) (d := some 58) (v := ?_) rfl (by kernel_rfl) (by kernel_rfl) (by kernel_rfl) (by kernel_rfl) (by kernel_rfl) (fun _ _ _ h => h) (Or.inl ⟨by kernel_rfl, ?_⟩) hS ?_
        rotate_left
        ·
         intro w' hS
         obtain ⟨⟨sE0, sE1, sE2⟩, ⟨sV0, sV1, sV2, sV3⟩, sK0, sK1, sK2⟩ := hS
         go_simp
         try with_reducible rfl
        refine AnyJ.takeD (i := 8) (d := some 59) (v := ?_) rfl (by kernel_rfl) (by kernel_rfl) (by kernel_rfl) (by kernel_rfl) (by kernel_rfl) (fun _ _ _ h => h) (Or.inl ⟨by kernel_rfl, ?_⟩) hS ?_
        rotate_left
        ·
         intro w' hS
         obtain ⟨⟨sE0, sE1, sE2⟩, ⟨sV0, sV1, sV2, sV3⟩, sK0, sK1, sK2⟩ := hS
         go_simp
         try with_reducible rfl
        clear hS
        refine AnyJ.one (i := 9) (by kernel_rfl) rfl (fun Kz hKz => ?_)
        go_simp
        obtain ⟨u4, hwu4⟩ : ∃ X, World.alloc u3 (.cells #[.int .i64 0, .int .i64 0] 33) = X := ⟨_, rfl⟩
        rw [hwu4]
        have hsu4 : Below u3.heap.size u3 u4 := by rw [← hwu4]; exact (Below.refl _ _).alloc (Nat.le_refl _) _
        have hbu4 : Below w7.heap.size w7 u4 := hbu3.trans (hsu4.mono hbu3.size)
        have hA : w7.heap.size ≤ u3.heap.size := hbu3.size
        have RA : Row u4 u3.heap.size [.int .i64 0, .int .i64 0] := by rw [← hwu4]; exact Row.new' _ _ _ rfl
        clear hwu4
        refine hKz _ _ (fun _ => HS.out _ hbu4) ?_
        clear hKz Kz
        have a0 := RA.cell 0 rfl
        have a1 := RA.cell 1 rfl
        have f0 := RA.frozen 0
        have f1 := RA.frozen 1
        have fl := RA.lt
        refine AnyJ.one (i := 10) (by kernel_rfl) rfl (fun Kz hKz => ?_)
        go_simp
        refine hKz _ _ (fun _ => HS.out _ ((hbu4.setCell (hp := hA) (p := ⟨u3.heap.size, 0, none⟩) _).setCell (hp := hA) (p := ⟨u3.heap.size, 1, none⟩) _)) ?_
        clear hKz Kz
        refine AnyJ.one (i := 11) (by kernel_rfl) rfl (fun Kz hKz => ?_)
        go_simp
        refine hKz _ _ (fun h => by cases h) ?_
        clear hKz Kz
        refine AnyJ.done (by kernel_rfl) ?_ _
        try simp only [Act.put, List.setIfInBounds_toArray, List.set_cons_zero, List.set_cons_succ]
        clear a0 a1 f0 f1 fl
        go_wp2_with fail
        go_meet
        exact ⟨_, rfl, rfl, RA.set2 _ _, (hbu4.setCell (hp := hA) (p := ⟨u3.heap.size, 0, none⟩) _).setCell (hp := hA) (p := ⟨u3.heap.size, 1, none⟩) _⟩
       ·
        go_simp
        obtain ⟨u3, hwu3⟩ : ∃ X, World.alloc u2 (.cells #[.int .i64 0, .int .i64 0] 33) = X := ⟨_, rfl⟩
        rw [hwu3]
        have hsu3 : Below u2.heap.size u2 u3 := by rw [← hwu3]; exact (Below.refl _ _).alloc (Nat.le_refl _) _
        have hbu3 : Below w7.heap.size w7 u3 := hbu2.trans (hsu3.mono hbu2.size)
        have hA : w7.heap.size ≤ u2.heap.size := hbu2.size
        have RA : Row u3 u2.heap.size [.int .i64 0, .int .i64 0] := by rw [← hwu3]; exact Row.new' _ _ _ rfl
        clear hwu3
        refine hKz _ _ (fun _ => HS.out _ hbu3) ?_
        clear hKz Kz
        refine AnyJ.one (i := 5) (by kernel_rfl) rfl (fun Kz hKz => ?_)
        go_simp
        refine (eval_p y v0 v1 v2 v3 u3 (HYI.out.step hbu3) ya yb ye HYV.out).mono ?_
        rintro e u4 ⟨rfl, hsu4⟩
        have hbu4 : Below w7.heap.size w7 u4 := hbu3.trans (hsu4.mono hbu3.size)
        have hS := HS.out _ hbu4
        refine hKz _ _ (fun _ => hS) ?_
        clear hKz Kz
        refine AnyJ.takeD (i := 6) (d := some 51) (v := ?_) rfl (by kernel_rfl) (by kernel_rfl) (by kernel_rfl) (by kernel_rfl) (by kernel_rfl) (fun _ _ _ h => h) (Or.inl ⟨by kernel_rfl, ?_⟩) hS ?_
        rotate_left
        ·
         intro w' hS
         obtain ⟨⟨sE0, sE1, sE2⟩, ⟨sV0, sV1, sV2, sV3⟩, sK0, sK1, sK2⟩ := hS
         go_simp
         try with_reducible rfl
        refine AnyJ.takeD (i := 7) (d := some 58) (v := ?_) rfl (by kernel_rfl) (by kernel_rfl) (by kernel_rfl) (by kernel_rfl) (by kernel_rfl) (fun _ _ _ h => h) (Or.inl ⟨by kernel_rfl, ?_⟩) hS ?_
        rotate_left
        ·
         intro w' hS
         obtain ⟨⟨sE0, sE1, sE2⟩, ⟨sV0, sV1, sV2, sV3⟩, sK0, sK1, sK2⟩ := hS
         go_simp
         try with_reducible rfl
        refine AnyJ.takeD (i := 8) (d := some 59) (v := ?_) rfl (by kernel_rfl) (by kernel_rfl) (by kernel_rfl) (by kernel_rfl) (by kernel_rfl) (fun _ _ _ h => h) (Or.inl ⟨by kernel_rfl, ?_⟩) hS ?_
        rotate_left
        ·
         intro w' hS
         obtain ⟨⟨sE0, sE1, sE2⟩, ⟨sV0, sV1, sV2, sV3⟩, sK0, sK1, sK2⟩ := hS
         go_simp
         try with_reducible rfl
        clear hS
        replace RA := RA.step hsu4
        have a0 := RA.cell 0 rfl
        have a1 := RA.cell 1 rfl
        have f0 := RA.frozen 0
        have f1 := RA.frozen 1
        have fl := RA.lt
        refine AnyJ.one (i := 10) (by kernel_rfl) rfl (fun Kz hKz => ?_)
        go_simp
        refine hKz _ _ (fun _ => HS.out _ ((hbu4.setCell (hp := hA) (p := ⟨u2.heap.size, 0, none⟩) _).setCell (hp := hA) (p := ⟨u2.heap.size, 1, none⟩) _)) ?_
        clear hKz Kz
        refine AnyJ.one (i := 11) (by kernel_rfl) rfl (fun Kz hKz => ?_)
        go_simp
        refine hKz _ _ (fun h => by cases h) ?_
        clear hKz Kz
        refine AnyJ.done (by kernel_rfl) ?_ _
        try simp only [Act.put, List.setIfInBounds_toArray, List.set_cons_zero, List.set_cons_succ]
        clear a0 a1 f0 f1 fl
        go_wp2_with fail
        go_meet
        exact ⟨_, rfl, rfl, RA.set2 _ _, (hbu4.setCell (hp := hA) (p := ⟨u2.heap.size, 0, none⟩) _).setCell (hp := hA) (p := ⟨u2.heap.size, 1, none⟩) _⟩
      case' rest =>
       obtain ⟨Ay, rfl, rfl, RAy, hb8⟩ := hcut
       obtain ⟨w8, hw8⟩ : ∃ wd, wd = wc := ⟨_, rfl⟩
       subst hw8
       clear HS HYI
       have R_v_8 : Row w8 (w.heap.size + 1) [.int .i64 (v0), .int .i64 (v1), .int .i64 (v2), .int .i64 (v3)] := by (repeat' (first | (with_reducible assumption) | (with_reducible refine Row.new' _ _ _ (by first | rfl | (simp; done) | omega)) | (with_reducible first | refine Row.alloc ?_ _ | refine Row.drew ?_ | refine Row.step ?_ (by assumption) | refine Row.drewN ?_ _) | (with_reducible refine Row.set2' ?_ _ _; first | exact ⟨_, _, by assumption⟩ | exact ⟨_, _, Row.alloc (by assumption) _⟩) | (with_reducible refine Row.other ?_ (by first | omega | (simp; omega)) _)))
       have c_v_0_8 := R_v_8.cell 0 rfl
       have c_v_1_8 := R_v_8.cell 1 rfl
       have c_v_2_8 := R_v_8.cell 2 rfl
       have c_v_3_8 := R_v_8.cell 3 rfl
       have l_v_8 := R_v_8.lt
       have R_r_8 : Row w8 (w6.heap.size) [.int .i64 (N), .int .i64 (D)] := by (repeat' (first | (with_reducible assumption) | (with_reducible refine Row.new' _ _ _ (by first | rfl | (simp; done) | omega)) | (with_reducible first | refine Row.alloc ?_ _ | refine Row.drew ?_ | refine Row.step ?_ (by assumption) | refine Row.drewN ?_ _) | (with_reducible refine Row.set2' ?_ _ _; first | exact ⟨_, _, by assumption⟩ | exact ⟨_, _, Row.alloc (by assumption) _⟩) | (with_reducible refine Row.other ?_ (by first | omega | (simp; omega)) _)))
       have c_r_0_8 := R_r_8.cell 0 rfl
       have c_r_1_8 := R_r_8.cell 1 rfl
       have l_r_8 := R_r_8.lt
       have R_e_8 : Row w8 (w.heap.size) [.int .i64 op, .int .i64 n, .slice (some ⟨b, off, none⟩) ks.length cap] := by (repeat' (first | (with_reducible assumption) | (with_reducible refine Row.new' _ _ _ (by first | rfl | (simp; done) | omega)) | (with_reducible first | refine Row.alloc ?_ _ | refine Row.drew ?_ | refine Row.step ?_ (by assumption) | refine Row.drewN ?_ _) | (with_reducible refine Row.set2' ?_ _ _; first | exact ⟨_, _, by assumption⟩ | exact ⟨_, _, Row.alloc (by assumption) _⟩) | (with_reducible refine Row.other ?_ (by first | omega | (simp; omega)) _)))
       have c_e_0_8 := R_e_8.cell 0 rfl
       have c_e_1_8 := R_e_8.cell 1 rfl
       have c_e_2_8 := R_e_8.cell 2 rfl
       have l_e_8 := R_e_8.lt
       have HB8 : Below w.heap.size w w8 := by (repeat' (first | (with_reducible first | exact Below.refl _ _ | assumption | exact Bw.out (by assumption) | refine bw_alloc ?_ _ | refine bw_step ?_ (by assumption) | refine Below.alloc ?_ ?_ _ | refine Below.drew ?_ | refine below_drewN ?_ _ | refine Below.setCell ?_ ?_ _ | refine below_step ?_ (by assumption) ?_ | exact Nat.le_refl _) | omega | (simp; omega) | (simp; done)))
       clear R_e_7 c_e_0_7 c_e_1_7 c_e_2_7 R_v_7 c_v_0_7 c_v_1_7 c_v_2_7 c_v_3_7 R_r_7 c_r_0_7 c_r_1_7 hb7 hw7
       have R_y_8 := RAy
       have c_y_0_8 := RAy.cell 0 rfl
       have c_y_1_8 := RAy.cell 1 rfl
       have l_y_8 := RAy.lt
       clear RAy
       by_cases hye : ye = 0
       ·
        have hye' : (ye != 0) = false := by simpa using hye
        have HYE := Lib.hid hye
        have HTY := Lib.hid (ty_op (x := .node op n (some ⟨b, off, none⟩) cap ks) P4.out)
        have hy3 : op = 15 ∨ op = 10 → (ya = 0 ∨ ya = 1) ∧ yb = 1 := fun h => by
         have ht := HTY.out
         have hop : (Ex.node op n (some ⟨b, off, none⟩) cap ks).op = op := rfl
         have h0 := P4.out
         rw [ht, ty_kidD hy.out, hop] at h0
         have hty : y.ty = 3 := by
          unfold tyOp at h0
          rcases h with e | e <;> subst e <;> simp at h0
          ·
           exact h0
          ·
           exact h0.1
         have := bool_val (var4 v0 v1 v2 v3) y.size y (Nat.le_refl _) (validE_ok (validE_kid P2.out hy.out)) hty (by rw [HyV.out]; exact hye)
         rw [HyV.out] at this
         exact this
        clear hye
        by_cases h15 : op = 15
        ·
         have h15' : (op == 15) = true := by simpa using h15
         obtain ⟨ha, rfl⟩ := hy3 (Or.inl h15)
         have hx := ev_not (v := var4 v0 v1 v2 v3) (x := .node op n (some ⟨b, off, none⟩) cap ks) h15 hy.out (by rw [HyV.out]; exact HYE.out)
         rw [HR.out, HyV.out] at hx
         simp only [Prod.mk.injEq] at hx
         obtain ⟨hN, rfl, rfl⟩ := hx
         rcases ha with rfl | rfl
         ·
          obtain rfl : N = 1 := hN.trans rfl
          clear h15 hy3 hN
          go_wp2_with fail
          go_ret
          refine ⟨(by first | rfl | exact ret_bool (by first | rfl | (simp; done) | (simp; omega))), ?_⟩
          (repeat' (first | (with_reducible first | exact Below.refl _ _ | assumption | exact Bw.out (by assumption) | refine bw_alloc ?_ _ | refine bw_step ?_ (by assumption) | refine Below.alloc ?_ ?_ _ | refine Below.drew ?_ | refine below_drewN ?_ _ | refine Below.setCell ?_ ?_ _ | refine below_step ?_ (by assumption) ?_ | exact Nat.le_refl _) | omega | (simp; omega) | (simp; done)))
         ·
          obtain rfl : N = 0 := hN.trans rfl
          clear h15 hy3 hN
          go_wp2_with fail
          go_ret
          refine ⟨(by first | rfl | exact ret_bool (by first | rfl | (simp; done) | (simp; omega))), ?_⟩
          (repeat' (first | (with_reducible first | exact Below.refl _ _ | assumption | exact Bw.out (by assumption) | refine bw_alloc ?_ _ | refine bw_step ?_ (by assumption) | refine Below.alloc ?_ ?_ _ | refine Below.drew ?_ | refine below_drewN ?_ _ | refine Below.setCell ?_ ?_ _ | refine below_step ?_ (by assumption) ?_ | exact Nat.le_refl _) | omega | (simp; omega) | (simp; done)))
        ·
         have h15' : (op == 15) = false := by simpa using h15
         have hm2 : 2 ≤ ks.length := k2 h15
         have hlen1 : (1 : Int) < (ks.length : Int) := by omega
         by_cases h10 : op = 10
         ·
          have h10' : (op == 10) = true := by simpa using h10
          have hm3 : ks.length = 3 := k3 h10
          have hlen2 : (2 : Int) < (ks.length : Int) := by omega
          have HM3 := Lib.hid hm3
          obtain ⟨ha, hb1⟩ := hy3 (Or.inr h10)
          have hb1' : (yb == 1) = true := by simpa using hb1
          have HOP10 := Lib.hid h10
          clear hm3 hy3 hb1 h10 k1 k2 k3
          by_cases hya : ya = 1
          ·
           have hya' : (ya == 1) = true := by simpa using hya
           go_upto_region 12 with fail
           obtain ⟨w9, hw9⟩ : ∃ x, World.alloc w8 (.cells #[.int .i64 1, .int .i64 1] 33) = x := ⟨_, rfl⟩
           rw [hw9]
           have hb9 : Below w8.heap.size w8 w9 := by rw [← hw9]; (repeat' (first | (with_reducible first | exact Below.refl _ _ | assumption | exact Bw.out (by assumption) | refine bw_alloc ?_ _ | refine bw_step ?_ (by assumption) | refine Below.alloc ?_ ?_ _ | refine Below.drew ?_ | refine below_drewN ?_ _ | refine Below.setCell ?_ ?_ _ | refine below_step ?_ (by assumption) ?_ | exact Nat.le_refl _) | omega | (simp; omega) | (simp; done)))
           have R_v_9 : Row w9 (w.heap.size + 1) [.int .i64 (v0), .int .i64 (v1), .int .i64 (v2), .int .i64 (v3)] := by rw [← hw9]; (repeat' (first | (with_reducible assumption) | (with_reducible refine Row.new' _ _ _ (by first | rfl | (simp; done) | omega)) | (with_reducible first | refine Row.alloc ?_ _ | refine Row.drew ?_ | refine Row.step ?_ (by assumption) | refine Row.drewN ?_ _) | (with_reducible refine Row.set2' ?_ _ _; first | exact ⟨_, _, by assumption⟩ | exact ⟨_, _, Row.alloc (by assumption) _⟩) | (with_reducible refine Row.other ?_ (by first | omega | (simp; omega)) _)))
           have c_v_0_9 := R_v_9.cell 0 rfl
           have c_v_1_9 := R_v_9.cell 1 rfl
           have c_v_2_9 := R_v_9.cell 2 rfl
           have c_v_3_9 := R_v_9.cell 3 rfl
           have l_v_9 := R_v_9.lt
           have R_r_9 : Row w9 (w6.heap.size) [.int .i64 (N), .int .i64 (D)] := by rw [← hw9]; (repeat' (first | (with_reducible assumption) | (with_reducible refine Row.new' _ _ _ (by first | rfl | (simp; done) | omega)) | (with_reducible first | refine Row.alloc ?_ _ | refine Row.drew ?_ | refine Row.step ?_ (by assumption) | refine Row.drewN ?_ _) | (with_reducible refine Row.set2' ?_ _ _; first | exact ⟨_, _, by assumption⟩ | exact ⟨_, _, Row.alloc (by assumption) _⟩) | (with_reducible refine Row.other ?_ (by first | omega | (simp; omega)) _)))
           have c_r_0_9 := R_r_9.cell 0 rfl
           have c_r_1_9 := R_r_9.cell 1 rfl
           have l_r_9 := R_r_9.lt
           have R_e_9 : Row w9 (w.heap.size) [.int .i64 op, .int .i64 n, .slice (some ⟨b, off, none⟩) ks.length cap] := by rw [← hw9]; (repeat' (first | (with_reducible assumption) | (with_reducible refine Row.new' _ _ _ (by first | rfl | (simp; done) | omega)) | (with_reducible first | refine Row.alloc ?_ _ | refine Row.drew ?_ | refine Row.step ?_ (by assumption) | refine Row.drewN ?_ _) | (with_reducible refine Row.set2' ?_ _ _; first | exact ⟨_, _, by assumption⟩ | exact ⟨_, _, Row.alloc (by assumption) _⟩) | (with_reducible refine Row.other ?_ (by first | omega | (simp; omega)) _)))
           have c_e_0_9 := R_e_9.cell 0 rfl
           have c_e_1_9 := R_e_9.cell 1 rfl
           have c_e_2_9 := R_e_9.cell 2 rfl
           have l_e_9 := R_e_9.lt
           have R_y_9 : Row w9 (Ay) [.int .i64 (ya), .int .i64 (yb)] := by rw [← hw9]; (repeat' (first | (with_reducible assumption) | (with_reducible refine Row.new' _ _ _ (by first | rfl | (simp; done) | omega)) | (with_reducible first | refine Row.alloc ?_ _ | refine Row.drew ?_ | refine Row.step ?_ (by assumption) | refine Row.drewN ?_ _) | (with_reducible refine Row.set2' ?_ _ _; first | exact ⟨_, _, by assumption⟩ | exact ⟨_, _, Row.alloc (by assumption) _⟩) | (with_reducible refine Row.other ?_ (by first | omega | (simp; omega)) _)))
           have c_y_0_9 := R_y_9.cell 0 rfl
           have c_y_1_9 := R_y_9.cell 1 rfl
           have l_y_9 := R_y_9.lt
           have R_u_9 : Row w9 (w8.heap.size) [.int .i64 (1), .int .i64 (1)] := by rw [← hw9]; (repeat' (first | (with_reducible assumption) | (with_reducible refine Row.new' _ _ _ (by first | rfl | (simp; done) | omega)) | (with_reducible first | refine Row.alloc ?_ _ | refine Row.drew ?_ | refine Row.step ?_ (by assumption) | refine Row.drewN ?_ _) | (with_reducible refine Row.set2' ?_ _ _; first | exact ⟨_, _, by assumption⟩ | exact ⟨_, _, Row.alloc (by assumption) _⟩) | (with_reducible refine Row.other ?_ (by first | omega | (simp; omega)) _)))
           have c_u_0_9 := R_u_9.cell 0 rfl
           have c_u_1_9 := R_u_9.cell 1 rfl
           have l_u_9 := R_u_9.lt
           have HB9 := HB8.trans (hb9.mono HB8.size)
           have hs9 := hb9.size
           have hz9 := HB9.size
           clear R_v_8 c_v_0_8 c_v_1_8 c_v_2_8 c_v_3_8 R_r_8 c_r_0_8 c_r_1_8 R_e_8 c_e_0_8 c_e_1_8 c_e_2_8 hb8 HB8
           obtain ⟨z, b', off', hz, hzin, e', hlz, d0, d1, d2⟩ := HIN.out.kidAt (Below.refl _ w) (k := 1) (by show 1 < ks.length; omega)
           cases e'
           obtain ⟨za, zb, ze, hzv⟩ : ∃ a b e, z.ev (var4 v0 v1 v2 v3) = (a, b, e) := ⟨_, _, _, rfl⟩
           have HzV := Lib.hid hzv
           have HYV : Hid (evalV z v0 v1 v2 v3 = (za, zb, ze)) := by
            show _ = _
            rw [← hzv]
            exact evalV_kid P2.out P4.out hz.out P3.out
           have HYI := Lib.hid (hzin.step HB9)
           have HS : Hid (∀ W, Below w9.heap.size w9 W → RdR w.heap.size v0 v1 v2 v3 op n b off ks.length cap (off + 3) (off + 4) (off + 5) z W) := fun W h =>
            ⟨⟨(R_e_9.step h).cell 0 rfl, (R_e_9.step h).cell 1 rfl, (R_e_9.step h).cell 2 rfl⟩, ⟨(R_v_9.step h).cell 0 rfl, (R_v_9.step h).cell 1 rfl, (R_v_9.step h).cell 2 rfl, (R_v_9.step h).cell 3 rfl⟩,
             ((HB9.trans (h.mono HB9.size)).cell (p := ⟨b, _, none⟩) hlz).trans d0, ((HB9.trans (h.mono HB9.size)).cell (p := ⟨b, _, none⟩) hlz).trans d1, ((HB9.trans (h.mono HB9.size)).cell (p := ⟨b, _, none⟩) hlz).trans d2⟩
           clear hzin d0 d1 d2 hzv
           go_cut [11, 12] from 95 to 103 (fun v u wx => ∃ A : Nat, v = .pointer (some ⟨A, 0, none⟩) ∧ u = .int .i64 ze ∧ Row wx A [.int .i64 za, .int .i64 zb] ∧ Below w9.heap.size w9 wx)
           case first =>
            refine AnyJ.beginP (RdR w.heap.size v0 v1 v2 v3 op n b off ks.length cap (off + 3) (off + 4) (off + 5) z) (fun j => decide (j ≤ 10)) (by kernel_rfl) (HS.out _ (Below.refl _ _).drew) (fun hS => ?_)
            obtain ⟨u2, hu2⟩ : ∃ X, World.drew w9 = X := ⟨_, rfl⟩
            have hbu2 : Below w9.heap.size w9 u2 := by rw [← hu2]; exact (Below.refl _ _).drew
            rw [hu2] at hS ⊢
            clear hu2
            refine AnyJ.takeD (i := 0) (d := some 96) (v := ?_) rfl (by kernel_rfl) (by kernel_rfl) (by kernel_rfl) (by kernel_rfl) (by kernel_rfl) (fun _ _ _ h => h) (Or.inl ⟨by kernel_rfl, ?_⟩) hS ?_
            rotate_left
            ·
             intro w' hS
             obtain ⟨⟨sE0, sE1, sE2⟩, ⟨sV0, sV1, sV2, sV3⟩, sK0, sK1, sK2⟩ := hS
             go_simp
             try with_reducible rfl
            refine AnyJ.takeD (i := 1) (d := some 97) (v := ?_) rfl (by kernel_rfl) (by kernel_rfl) (by kernel_rfl) (by kernel_rfl) (by kernel_rfl) (fun _ _ _ h => h) (Or.inl ⟨by kernel_rfl, ?_⟩) hS ?_
            rotate_left
            ·
             intro w' hS
             obtain ⟨⟨sE0, sE1, sE2⟩, ⟨sV0, sV1, sV2, sV3⟩, sK0, sK1, sK2⟩ := hS
             go_simp
             try with_reducible rfl
            refine AnyJ.takeD (i := 2) (d := some 98) (v := ?_) rfl (by kernel_rfl) (by kernel_rfl) (by kernel_rfl) (by kernel_rfl) (by kernel_rfl) (fun _ _ _ h => h) (Or.inl ⟨by kernel_rfl, ?_⟩) hS ?_
            rotate_left
            ·
             intro w' hS
             obtain ⟨⟨sE0, sE1, sE2⟩, ⟨sV0, sV1, sV2, sV3⟩, sK0, sK1, sK2⟩ := hS
             go_simp
             try with_reducible rfl
            refine AnyJ.takeD (i := 3) (d := some 99) (v := ?_) rfl (by kernel_rfl) (by kernel_rfl) (by kernel_rfl) (by kernel_rfl) (by kernel_rfl) (fun _ _ _ h => h) (Or.inl ⟨by kernel_rfl, ?_⟩) hS ?_
            rotate_left
            ·
             intro w' hS
             obtain ⟨⟨sE0, sE1, sE2⟩, ⟨sV0, sV1, sV2, sV3⟩, sK0, sK1, sK2⟩ := hS
             go_simp
             try with_reducible rfl
            refine AnyJ.takeD (i := 4) (d := some 100) (v := ?_) rfl (by kernel_rfl) (by kernel_rfl) (by kernel_rfl) (by kernel_rfl) (by kernel_rfl) (fun _ _ _ h => h) (Or.inl ⟨by kernel_rfl, ?_⟩) hS ?_
            rotate_left
            ·
             intro w' hS
             obtain ⟨⟨sE0, sE1, sE2⟩, ⟨sV0, sV1, sV2, sV3⟩, sK0, sK1, sK2⟩ := hS
             go_simp
             try with_reducible rfl
            clear hS
            refine AnyJ.two (i := 5) (j := 9) (by kernel_rfl) rfl rfl (fun Kz hKz => ?_) (fun Kz hKz => ?_)
            ·
             go_simp
             refine (eval_p z v0 v1 v2 v3 u2 (HYI.out.step hbu2) za zb ze HYV.out).mono ?_
             rintro e u3 ⟨rfl, hsu3⟩
             have hbu3 : Below w9.heap.size w9 u3 := hbu2.trans (hsu3.mono hbu2.size)
             have hS := HS.out _ hbu3
             refine hKz _ _ (fun _ => hS) ?_
             clear hKz Kz
             refine AnyJ.takeD (i := 6) (d := some 95) (v := ?_) rfl (by kernel_rfl) (by kernel_rfl) (by kernel_rfl) (by kernel_rfl) (by kernel_rfl) (fun _ _ _ h => h) (Or.inl ⟨by kernel_rfl, ?_⟩) hS ?_
             rotate_left
             ·
              intro w' hS
              obtain ⟨⟨sE0, sE1, sE2⟩, ⟨sV0, sV1, sV2, sV3⟩, sK0, sK1, sK2⟩ := hS
              go_simp
              try with_reducible rfl
             refine AnyJ.takeD (i := 7) (d := some 102) (v := ?_) rfl (by kernel_rfl) (by kernel_rfl) (by kernel_rfl) (by kernel_rfl) (by kernel_rfl) (fun _ _ _ h => h) (Or.inl ⟨by kernel_rfl, ?_⟩) hS ?_
             rotate_left
             ·
              intro w' hS
              obtain ⟨⟨sE0, sE1, sE2⟩, ⟨sV0, sV1, sV2, sV3⟩, sK0, sK1, sK2⟩ := hS
              go_simp
              try with_reducible rfl
             refine AnyJ.takeD (i := 8) (d := some 103) (v := ?_) rfl (by kernel_rfl) (by kernel_rfl) (by kernel_rfl) (by kernel_rfl) (by kernel_rfl) (fun _ _ _ h => h) (Or.inl ⟨by kernel_rfl, ?_⟩) hS ?_
             rotate_left
             ·
              intro w' hS
              obtain ⟨⟨sE0, sE1, sE2⟩, ⟨sV0, sV1, sV2, sV3⟩, sK0, sK1, sK2⟩ := hS
              go_simp
              try with_reducible rfl
             clear hS
             refine AnyJ.one (i := 9) (by kernel_rfl) rfl (fun Kz hKz => ?_)
             go_simp
             obtain ⟨u4, hwu4⟩ : ∃ X, World.alloc u3 (.cells #[.int .i64 0, .int .i64 0] 33) = X := ⟨_, rfl⟩
             rw [hwu4]
             have hsu4 : Below u3.heap.size u3 u4 := by rw [← hwu4]; exact (Below.refl _ _).alloc (Nat.le_refl _) _
             have hbu4 : Below w9.heap.size w9 u4 := hbu3.trans (hsu4.mono hbu3.size)
             have hA : w9.heap.size ≤ u3.heap.size := hbu3.size
             have RA : Row u4 u3.heap.size [.int .i64 0, .int .i64 0] := by rw [← hwu4]; exact Row.new' _ _ _ rfl
             clear hwu4
             refine hKz _ _ (fun _ => HS.out _ hbu4) ?_
             clear hKz Kz
             have a0 := RA.cell 0 rfl
             have a1 := RA.cell 1 rfl
             have f0 := RA.frozen 0
             have f1 := RA.frozen 1
             have fl := RA.lt
             refine AnyJ.one (i := 10) (by kernel_rfl) rfl (fun Kz hKz => ?_)
             go_simp
             refine hKz _ _ (fun _ => HS.out _ ((hbu4.setCell (hp := hA) (p := ⟨u3.heap.size, 0, none⟩) _).setCell (hp := hA) (p := ⟨u3.heap.size, 1, none⟩) _)) ?_
             clear hKz Kz
             refine AnyJ.one (i := 11) (by kernel_rfl) rfl (fun Kz hKz => ?_)
             go_simp
             refine hKz _ _ (fun h => by cases h) ?_
             clear hKz Kz
             refine AnyJ.done (by kernel_rfl) ?_ _
             try simp only [Act.put, List.setIfInBounds_toArray, List.set_cons_zero, List.set_cons_succ]
             clear a0 a1 f0 f1 fl
             go_wp2_with fail
             go_meet
             exact ⟨_, rfl, rfl, RA.set2 _ _, (hbu4.setCell (hp := hA) (p := ⟨u3.heap.size, 0, none⟩) _).setCell (hp := hA) (p := ⟨u3.heap.size, 1, none⟩) _⟩
            ·
             go_simp
             obtain ⟨u3, hwu3⟩ : ∃ X, World.alloc u2 (.cells #[.int .i64 0, .int .i64 0] 33) = X := ⟨_, rfl⟩
             rw [hwu3]
             have hsu3 : Below u2.heap.size u2 u3 := by rw [← hwu3]; exact (Below.refl _ _).alloc (Nat.le_refl _) _
             have hbu3 : Below w9.heap.size w9 u3 := hbu2.trans (hsu3.mono hbu2.size)
             have hA : w9.heap.size ≤ u2.heap.size := hbu2.size
             have RA : Row u3 u2.heap.size [.int .i64 0, .int .i64 0] := by rw [← hwu3]; exact Row.new' _ _ _ rfl
             clear hwu3
             refine hKz _ _ (fun _ => HS.out _ hbu3) ?_
             clear hKz Kz
             refine AnyJ.one (i := 5) (by kernel_rfl) rfl (fun Kz hKz => ?_)
             go_simp
             refine (eval_p z v0 v1 v2 v3 u3 (HYI.out.step hbu3) za zb ze HYV.out).mono ?_
             rintro e u4 ⟨rfl, hsu4⟩
             have hbu4 : Below w9.heap.size w9 u4 := hbu3.trans (hsu4.mono hbu3.size)
             have hS := HS.out _ hbu4
             refine hKz _ _ (fun _ => hS) ?_
             clear hKz Kz
             refine AnyJ.takeD (i := 6) (d := some 95) (v := ?_) rfl (by kernel_rfl) (by kernel_rfl) (by kernel_rfl) (by kernel_rfl) (by kernel_rfl) (fun _ _ _ h => h) (Or.inl ⟨by kernel_rfl, ?_⟩) hS ?_
             rotate_left
             ·
              intro w' hS
              obtain ⟨⟨sE0, sE1, sE2⟩, ⟨sV0, sV1, sV2, sV3⟩, sK0, sK1, sK2⟩ := hS
              go_simp
              try with_reducible rfl
             refine AnyJ.takeD (i := 7) (d := some 102) (v := ?_) rfl (by kernel_rfl) (by kernel_rfl) (by kernel_rfl) (by kernel_rfl) (by kernel_rfl) (fun _ _ _ h => h) (Or.inl ⟨by kernel_rfl, ?_⟩) hS ?_
             rotate_left
             ·
              intro w' hS
              obtain ⟨⟨sE0, sE1, sE2⟩, ⟨sV0, sV1, sV2, sV3⟩, sK0, sK1, sK2⟩ := hS
              go_simp
              try with_reducible rfl
             refine AnyJ.takeD (i := 8) (d := some 103) (v := ?_) rfl (by kernel_rfl) (by kernel_rfl) (by kernel_rfl) (by kernel_rfl) (by kernel_rfl) (fun _ _ _ h => h) (Or.inl ⟨by kernel_rfl, ?_⟩) hS ?_
             rotate_left
             ·
              intro w' hS
              obtain ⟨⟨sE0, sE1, sE2⟩, ⟨sV0, sV1, sV2, sV3⟩, sK0, sK1, sK2⟩ := hS
              go_simp
              try with_reducible rfl
             clear hS
             replace RA := RA.step hsu4
             have a0 := RA.cell 0 rfl
             have a1 := RA.cell 1 rfl
             have f0 := RA.frozen 0
             have f1 := RA.frozen 1
             have fl := RA.lt
             refine AnyJ.one (i := 10) (by kernel_rfl) rfl (fun Kz hKz => ?_)
             go_simp
             refine hKz _ _ (fun _ => HS.out _ ((hbu4.setCell (hp := hA) (p := ⟨u2.heap.size, 0, none⟩) _).setCell (hp := hA) (p := ⟨u2.heap.size, 1, none⟩) _)) ?_
             clear hKz Kz
             refine AnyJ.one (i := 11) (by kernel_rfl) rfl (fun Kz hKz => ?_)
             go_simp
             refine hKz _ _ (fun h => by cases h) ?_
             clear hKz Kz
             refine AnyJ.done (by kernel_rfl) ?_ _
             try simp only [Act.put, List.setIfInBounds_toArray, List.set_cons_zero, List.set_cons_succ]
             clear a0 a1 f0 f1 fl
             go_wp2_with fail
             go_meet
             exact ⟨_, rfl, rfl, RA.set2 _ _, (hbu4.setCell (hp := hA) (p := ⟨u2.heap.size, 0, none⟩) _).setCell (hp := hA) (p := ⟨u2.heap.size, 1, none⟩) _⟩
           case' rest =>
            obtain ⟨Az, rfl, rfl, RAz, hb10⟩ := hcut
            obtain ⟨w10, hw10⟩ : ∃ wd, wd = wc := ⟨_, rfl⟩
            subst hw10
            clear HS HYI
            have R_v_10 : Row w10 (w.heap.size + 1) [.int .i64 (v0), .int .i64 (v1), .int .i64 (v2), .int .i64 (v3)] := by (repeat' (first | (with_reducible assumption) | (with_reducible refine Row.new' _ _ _ (by first | rfl | (simp; done) | omega)) | (with_reducible first | refine Row.alloc ?_ _ | refine Row.drew ?_ | refine Row.step ?_ (by assumption) | refine Row.drewN ?_ _) | (with_reducible refine Row.set2' ?_ _ _; first | exact ⟨_, _, by assumption⟩ | exact ⟨_, _, Row.alloc (by assumption) _⟩) | (with_reducible refine Row.other ?_ (by first | omega | (simp; omega)) _)))
            have c_v_0_10 := R_v_10.cell 0 rfl
            have c_v_1_10 := R_v_10.cell 1 rfl
            have c_v_2_10 := R_v_10.cell 2 rfl
            have c_v_3_10 := R_v_10.cell 3 rfl
            have l_v_10 := R_v_10.lt
            have R_r_10 : Row w10 (w6.heap.size) [.int .i64 (N), .int .i64 (D)] := by (repeat' (first | (with_reducible assumption) | (with_reducible refine Row.new' _ _ _ (by first | rfl | (simp; done) | omega)) | (with_reducible first | refine Row.alloc ?_ _ | refine Row.drew ?_ | refine Row.step ?_ (by assumption) | refine Row.drewN ?_ _) | (with_reducible refine Row.set2' ?_ _ _; first | exact ⟨_, _, by assumption⟩ | exact ⟨_, _, Row.alloc (by assumption) _⟩) | (with_reducible refine Row.other ?_ (by first | omega | (simp; omega)) _)))
            have c_r_0_10 := R_r_10.cell 0 rfl
            have c_r_1_10 := R_r_10.cell 1 rfl
            have l_r_10 := R_r_10.lt
            have R_e_10 : Row w10 (w.heap.size) [.int .i64 op, .int .i64 n, .slice (some ⟨b, off, none⟩) ks.length cap] := by (repeat' (first | (with_reducible assumption) | (with_reducible refine Row.new' _ _ _ (by first | rfl | (simp; done) | omega)) | (with_reducible first | refine Row.alloc ?_ _ | refine Row.drew ?_ | refine Row.step ?_ (by assumption) | refine Row.drewN ?_ _) | (with_reducible refine Row.set2' ?_ _ _; first | exact ⟨_, _, by assumption⟩ | exact ⟨_, _, Row.alloc (by assumption) _⟩) | (with_reducible refine Row.other ?_ (by first | omega | (simp; omega)) _)))
            have c_e_0_10 := R_e_10.cell 0 rfl
            have c_e_1_10 := R_e_10.cell 1 rfl
            have c_e_2_10 := R_e_10.cell 2 rfl
            have l_e_10 := R_e_10.lt
            have R_y_10 : Row w10 (Ay) [.int .i64 (ya), .int .i64 (yb)] := by (repeat' (first | (with_reducible assumption) | (with_reducible refine Row.new' _ _ _ (by first | rfl | (simp; done) | omega)) | (with_reducible first | refine Row.alloc ?_ _ | refine Row.drew ?_ | refine Row.step ?_ (by assumption) | refine Row.drewN ?_ _) | (with_reducible refine Row.set2' ?_ _ _; first | exact ⟨_, _, by assumption⟩ | exact ⟨_, _, Row.alloc (by assumption) _⟩) | (with_reducible refine Row.other ?_ (by first | omega | (simp; omega)) _)))
            have c_y_0_10 := R_y_10.cell 0 rfl
            have c_y_1_10 := R_y_10.cell 1 rfl
            have l_y_10 := R_y_10.lt
            have R_u_10 : Row w10 (w8.heap.size) [.int .i64 (1), .int .i64 (1)] := by (repeat' (first | (with_reducible assumption) | (with_reducible refine Row.new' _ _ _ (by first | rfl | (simp; done) | omega)) | (with_reducible first | refine Row.alloc ?_ _ | refine Row.drew ?_ | refine Row.step ?_ (by assumption) | refine Row.drewN ?_ _) | (with_reducible refine Row.set2' ?_ _ _; first | exact ⟨_, _, by assumption⟩ | exact ⟨_, _, Row.alloc (by assumption) _⟩) | (with_reducible refine Row.other ?_ (by first | omega | (simp; omega)) _)))
            have c_u_0_10 := R_u_10.cell 0 rfl
            have c_u_1_10 := R_u_10.cell 1 rfl
            have l_u_10 := R_u_10.lt
            have HB10 : Below w.heap.size w w10 := by (repeat' (first | (with_reducible first | exact Below.refl _ _ | assumption | exact Bw.out (by assumption) | refine bw_alloc ?_ _ | refine bw_step ?_ (by assumption) | refine Below.alloc ?_ ?_ _ | refine Below.drew ?_ | refine below_drewN ?_ _ | refine Below.setCell ?_ ?_ _ | refine below_step ?_ (by assumption) ?_ | exact Nat.le_refl _) | omega | (simp; omega) | (simp; done)))
            clear R_v_9 c_v_0_9 c_v_1_9 c_v_2_9 c_v_3_9 R_r_9 c_r_0_9 c_r_1_9 R_e_9 c_e_0_9 c_e_1_9 c_e_2_9 R_y_9 c_y_0_9 c_y_1_9 R_u_9 c_u_0_9 c_u_1_9 hb9 hw9
            have R_z_10 := RAz
            have c_z_0_10 := RAz.cell 0 rfl
            have c_z_1_10 := RAz.cell 1 rfl
            have l_z_10 := RAz.lt
            clear RAz
            have hx := ev_then (v := var4 v0 v1 v2 v3) (x := .node op n (some ⟨b, off, none⟩) cap ks) HOP10.out hy.out (by rw [HyV.out]; exact HYE.out) (by rw [HyV.out]; exact hya) hz.out
            rw [HR.out, HzV.out] at hx
            simp only [Prod.mk.injEq] at hx
            obtain ⟨hx1, hx2, hx3⟩ := hx
            subst N D E
            clear hya
            go_wp2_with fail
            go_ret
            refine ⟨(by first | rfl | exact ret_bool (by first | rfl | (simp; done) | (simp; omega))), ?_⟩
            (repeat' (first | (with_reducible first | exact Below.refl _ _ | assumption | exact Bw.out (by assumption) | refine bw_alloc ?_ _ | refine bw_step ?_ (by assumption) | refine Below.alloc ?_ ?_ _ | refine Below.drew ?_ | refine below_drewN ?_ _ | refine Below.setCell ?_ ?_ _ | refine below_step ?_ (by assumption) ?_ | exact Nat.le_refl _) | omega | (simp; omega) | (simp; done)))
          ·
           have hya' : (ya == 1) = false := by simpa using hya
           have HM4 : 2 < ks.length := by have := HM3.out; omega
           go_upto_region 15 with fail
           obtain ⟨w9, hw9⟩ : ∃ x, World.alloc w8 (.cells #[.int .i64 1, .int .i64 1] 33) = x := ⟨_, rfl⟩
           rw [hw9]
           have hb9 : Below w8.heap.size w8 w9 := by rw [← hw9]; (repeat' (first | (with_reducible first | exact Below.refl _ _ | assumption | exact Bw.out (by assumption) | refine bw_alloc ?_ _ | refine bw_step ?_ (by assumption) | refine Below.alloc ?_ ?_ _ | refine Below.drew ?_ | refine below_drewN ?_ _ | refine Below.setCell ?_ ?_ _ | refine below_step ?_ (by assumption) ?_ | exact Nat.le_refl _) | omega | (simp; omega) | (simp; done)))
           have R_v_9 : Row w9 (w.heap.size + 1) [.int .i64 (v0), .int .i64 (v1), .int .i64 (v2), .int .i64 (v3)] := by rw [← hw9]; (repeat' (first | (with_reducible assumption) | (with_reducible refine Row.new' _ _ _ (by first | rfl | (simp; done) | omega)) | (with_reducible first | refine Row.alloc ?_ _ | refine Row.drew ?_ | refine Row.step ?_ (by assumption) | refine Row.drewN ?_ _) | (with_reducible refine Row.set2' ?_ _ _; first | exact ⟨_, _, by assumption⟩ | exact ⟨_, _, Row.alloc (by assumption) _⟩) | (with_reducible refine Row.other ?_ (by first | omega | (simp; omega)) _)))
           have c_v_0_9 := R_v_9.cell 0 rfl
           have c_v_1_9 := R_v_9.cell 1 rfl
           have c_v_2_9 := R_v_9.cell 2 rfl
           have c_v_3_9 := R_v_9.cell 3 rfl
           have l_v_9 := R_v_9.lt
           have R_r_9 : Row w9 (w6.heap.size) [.int .i64 (N), .int .i64 (D)] := by rw [← hw9]; (repeat' (first | (with_reducible assumption) | (with_reducible refine Row.new' _ _ _ (by first | rfl | (simp; done) | omega)) | (with_reducible first | refine Row.alloc ?_ _ | refine Row.drew ?_ | refine Row.step ?_ (by assumption) | refine Row.drewN ?_ _) | (with_reducible refine Row.set2' ?_ _ _; first | exact ⟨_, _, by assumption⟩ | exact ⟨_, _, Row.alloc (by assumption) _⟩) | (with_reducible refine Row.other ?_ (by first | omega | (simp; omega)) _)))
           have c_r_0_9 := R_r_9.cell 0 rfl
           have c_r_1_9 := R_r_9.cell 1 rfl
           have l_r_9 := R_r_9.lt
           have R_e_9 : Row w9 (w.heap.size) [.int .i64 op, .int .i64 n, .slice (some ⟨b, off, none⟩) ks.length cap] := by rw [← hw9]; (repeat' (first | (with_reducible assumption) | (with_reducible refine Row.new' _ _ _ (by first | rfl | (simp; done) | omega)) | (with_reducible first | refine Row.alloc ?_ _ | refine Row.drew ?_ | refine Row.step ?_ (by assumption) | refine Row.drewN ?_ _) | (with_reducible refine Row.set2' ?_ _ _; first | exact ⟨_, _, by assumption⟩ | exact ⟨_, _, Row.alloc (by assumption) _⟩) | (with_reducible refine Row.other ?_ (by first | omega | (simp; omega)) _)))
           have c_e_0_9 := R_e_9.cell 0 rfl
           have c_e_1_9 := R_e_9.cell 1 rfl
           have c_e_2_9 := R_e_9.cell 2 rfl
           have l_e_9 := R_e_9.lt
           have R_y_9 : Row w9 (Ay) [.int .i64 (ya), .int .i64 (yb)] := by rw [← hw9]; (repeat' (first | (with_reducible assumption) | (with_reducible refine Row.new' _ _ _ (by first | rfl | (simp; done) | omega)) | (with_reducible first | refine Row.alloc ?_ _ | refine Row.drew ?_ | refine Row.step ?_ (by assumption) | refine Row.drewN ?_ _) | (with_reducible refine Row.set2' ?_ _ _; first | exact ⟨_, _, by assumption⟩ | exact ⟨_, _, Row.alloc (by assumption) _⟩) | (with_reducible refine Row.other ?_ (by first | omega | (simp; omega)) _)))
           have c_y_0_9 := R_y_9.cell 0 rfl
           have c_y_1_9 := R_y_9.cell 1 rfl
           have l_y_9 := R_y_9.lt
           have R_u_9 : Row w9 (w8.heap.size) [.int .i64 (1), .int .i64 (1)] := by rw [← hw9]; (repeat' (first | (with_reducible assumption) | (with_reducible refine Row.new' _ _ _ (by first | rfl | (simp; done) | omega)) | (with_reducible first | refine Row.alloc ?_ _ | refine Row.drew ?_ | refine Row.step ?_ (by assumption) | refine Row.drewN ?_ _) | (with_reducible refine Row.set2' ?_ _ _; first | exact ⟨_, _, by assumption⟩ | exact ⟨_, _, Row.alloc (by assumption) _⟩) | (with_reducible refine Row.other ?_ (by first | omega | (simp; omega)) _)))
           have c_u_0_9 := R_u_9.cell 0 rfl
           have c_u_1_9 := R_u_9.cell 1 rfl
           have l_u_9 := R_u_9.lt
           have HB9 := HB8.trans (hb9.mono HB8.size)
           have hs9 := hb9.size
           have hz9 := HB9.size
           clear R_v_8 c_v_0_8 c_v_1_8 c_v_2_8 c_v_3_8 R_r_8 c_r_0_8 c_r_1_8 R_e_8 c_e_0_8 c_e_1_8 c_e_2_8 hb8 HB8
           obtain ⟨z, b', off', hz, hzin, e', hlz, d0, d1, d2⟩ := HIN.out.kidAt (Below.refl _ w) (k := 2) (by show 2 < ks.length; omega)
           cases e'
           obtain ⟨za, zb, ze, hzv⟩ : ∃ a b e, z.ev (var4 v0 v1 v2 v3) = (a, b, e) := ⟨_, _, _, rfl⟩
           have HzV := Lib.hid hzv
           have HYV : Hid (evalV z v0 v1 v2 v3 = (za, zb, ze)) := by
            show _ = _
            rw [← hzv]
            exact evalV_kid P2.out P4.out hz.out P3.out
           have HYI := Lib.hid (hzin.step HB9)
           have HS : Hid (∀ W, Below w9.heap.size w9 W → RdR w.heap.size v0 v1 v2 v3 op n b off ks.length cap (off + 6) (off + 7) (off + 8) z W) := fun W h =>
            ⟨⟨(R_e_9.step h).cell 0 rfl, (R_e_9.step h).cell 1 rfl, (R_e_9.step h).cell 2 rfl⟩, ⟨(R_v_9.step h).cell 0 rfl, (R_v_9.step h).cell 1 rfl, (R_v_9.step h).cell 2 rfl, (R_v_9.step h).cell 3 rfl⟩,
             ((HB9.trans (h.mono HB9.size)).cell (p := ⟨b, _, none⟩) hlz).trans d0, ((HB9.trans (h.mono HB9.size)).cell (p := ⟨b, _, none⟩) hlz).trans d1, ((HB9.trans (h.mono HB9.size)).cell (p := ⟨b, _, none⟩) hlz).trans d2⟩
           clear hzin d0 d1 d2 hzv
           go_cut [13, 14] from 119 to 127 (fun v u wx => ∃ A : Nat, v = .pointer (some ⟨A, 0, none⟩) ∧ u = .int .i64 ze ∧ Row wx A [.int .i64 za, .int .i64 zb] ∧ Below w9.heap.size w9 wx)
           case first =>
            refine AnyJ.beginP (RdR w.heap.size v0 v1 v2 v3 op n b off ks.length cap (off + 6) (off + 7) (off + 8) z) (fun j => decide (j ≤ 10)) (by kernel_rfl) (HS.out _ (Below.refl _ _).drew) (fun hS => ?_)
            obtain ⟨u2, hu2⟩ : ∃ X, World.drew w9 = X := ⟨_, rfl⟩
            have hbu2 : Below w9.heap.size w9 u2 := by rw [← hu2]; exact (Below.refl _ _).drew
            rw [hu2] at hS ⊢
            clear hu2
            refine AnyJ.takeD (i := 0) (d := some 120) (v := ?_) rfl (by kernel_rfl) (by kernel_rfl) (by kernel_rfl) (by kernel_rfl) (by kernel_rfl) (fun _ _ _ h => h) (Or.inl ⟨by kernel_rfl, ?_⟩) hS ?_
            rotate_left
            ·
             intro w' hS
             obtain ⟨⟨sE0, sE1, sE2⟩, ⟨sV0, sV1, sV2, sV3⟩, sK0, sK1, sK2⟩ := hS
             go_simp
             try with_reducible rfl
            refine AnyJ.takeD (i := 1) (d := some 121) (v := ?_) rfl (by kernel_rfl) (by kernel_rfl) (by kernel_rfl) (by kernel_rfl) (by kernel_rfl) (fun _ _ _ h => h) (Or.inl ⟨by kernel_rfl, ?_⟩) hS ?_
            rotate_left
            ·
             intro w' hS
             obtain ⟨⟨sE0, sE1, sE2⟩, ⟨sV0, sV1, sV2, sV3⟩, sK0, sK1, sK2⟩ := hS
             go_simp
             try with_reducible rfl
            refine AnyJ.takeD (i := 2) (d := some 122) (v := ?_) rfl (by kernel_rfl) (by kernel_rfl) (by kernel_rfl) (by kernel_rfl) (by kernel_rfl) (fun _ _ _ h => h) (Or.inl ⟨by kernel_rfl, ?_⟩) hS ?_
            rotate_left
            ·
             intro w' hS
             obtain ⟨⟨sE0, sE1, sE2⟩, ⟨sV0, sV1, sV2, sV3⟩, sK0, sK1, sK2⟩ := hS
             go_simp
             try with_reducible rfl
            refine AnyJ.takeD (i := 3) (d := some 123) (v := ?_) rfl (by kernel_rfl) (by kernel_rfl) (by kernel_rfl) (by kernel_rfl) (by kernel_rfl) (fun _ _ _ h => h) (Or.inl ⟨by kernel_rfl, ?_⟩) hS ?_
            rotate_left
            ·
             intro w' hS
             obtain ⟨⟨sE0, sE1, sE2⟩, ⟨sV0, sV1, sV2, sV3⟩, sK0, sK1, sK2⟩ := hS
             go_simp
             try with_reducible rfl
            refine AnyJ.takeD (i := 4) (d := some 124) (v := ?_) rfl (by kernel_rfl) (by kernel_rfl) (by kernel_rfl) (by kernel_rfl) (by kernel_rfl) (fun _ _ _ h => h) (Or.inl ⟨by kernel_rfl, ?_⟩) hS ?_
            rotate_left
            ·
             intro w' hS
             obtain ⟨⟨sE0, sE1, sE2⟩, ⟨sV0, sV1, sV2, sV3⟩, sK0, sK1, sK2⟩ := hS
             go_simp
             try with_reducible rfl
            clear hS
            refine AnyJ.two (i := 5) (j := 9) (by kernel_rfl) rfl rfl (fun Kz hKz => ?_) (fun Kz hKz => ?_)
            ·
             go_simp
             refine (eval_p z v0 v1 v2 v3 u2 (HYI.out.step hbu2) za zb ze HYV.out).mono ?_
             rintro e u3 ⟨rfl, hsu3⟩
             have hbu3 : Below w9.heap.size w9 u3 := hbu2.trans (hsu3.mono hbu2.size)
             have hS := HS.out _ hbu3
             refine hKz _ _ (fun _ => hS) ?_
             clear hKz Kz
             refine AnyJ.takeD (i := 6) (d := some 119) (v := ?_) rfl (by kernel_rfl) (by kernel_rfl) (by kernel_rfl) (by kernel_rfl) (by kernel_rfl) (fun _ _ _ h => h) (Or.inl ⟨by kernel_rfl, ?_⟩) hS ?_
             rotate_left
             ·
              intro w' hS
              obtain ⟨⟨sE0, sE1, sE2⟩, ⟨sV0, sV1, sV2, sV3⟩, sK0, sK1, sK2⟩ := hS
              go_simp
              try with_reducible rfl
             refine AnyJ.takeD (i := 7) (d := some 126) (v := ?_) rfl (by kernel_rfl) (by kernel_rfl) (by kernel_rfl) (by kernel_rfl) (by kernel_rfl) (fun _ _ _ h => h) (Or.inl ⟨by kernel_rfl, ?_⟩) hS ?_
             rotate_left
             ·
              intro w' hS
              obtain ⟨⟨sE0, sE1, sE2⟩, ⟨sV0, sV1, sV2, sV3⟩, sK0, sK1, sK2⟩ := hS
              go_simp
              try with_reducible rfl
             refine AnyJ.takeD (i := 8) (d := some 127) (v := ?_) rfl (by kernel_rfl) (by kernel_rfl) (by kernel_rfl) (by kernel_rfl) (by kernel_rfl) (fun _ _ _ h => h) (Or.inl ⟨by kernel_rfl, ?_⟩) hS ?_
             rotate_left
             ·
              intro w' hS
              obtain ⟨⟨sE0, sE1, sE2⟩, ⟨sV0, sV1, sV2, sV3⟩, sK0, sK1, sK2⟩ := hS
              go_simp
              try with_reducible rfl
             clear hS
             refine AnyJ.one (i := 9) (by kernel_rfl) rfl (fun Kz hKz => ?_)
             go_simp
             obtain ⟨u4, hwu4⟩ : ∃ X, World.alloc u3 (.cells #[.int .i64 0, .int .i64 0] 33) = X := ⟨_, rfl⟩
             rw [hwu4]
             have hsu4 : Below u3.heap.size u3 u4 := by rw [← hwu4]; exact (Below.refl _ _).alloc (Nat.le_refl _) _
             have hbu4 : Below w9.heap.size w9 u4 := hbu3.trans (hsu4.mono hbu3.size)
             have hA : w9.heap.size ≤ u3.heap.size := hbu3.size
             have RA : Row u4 u3.heap.size [.int .i64 0, .int .i64 0] := by rw [← hwu4]; exact Row.new' _ _ _ rfl
             clear hwu4
             refine hKz _ _ (fun _ => HS.out _ hbu4) ?_
             clear hKz Kz
             have a0 := RA.cell 0 rfl
             have a1 := RA.cell 1 rfl
             have f0 := RA.frozen 0
             have f1 := RA.frozen 1
             have fl := RA.lt
             refine AnyJ.one (i := 10) (by kernel_rfl) rfl (fun Kz hKz => ?_)
             go_simp
             refine hKz _ _ (fun _ => HS.out _ ((hbu4.setCell (hp := hA) (p := ⟨u3.heap.size, 0, none⟩) _).setCell (hp := hA) (p := ⟨u3.heap.size, 1, none⟩) _)) ?_
             clear hKz Kz
             refine AnyJ.one (i := 11) (by kernel_rfl) rfl (fun Kz hKz => ?_)
             go_simp
             refine hKz _ _ (fun h => by cases h) ?_
             clear hKz Kz
             refine AnyJ.done (by kernel_rfl) ?_ _
             try simp only [Act.put, List.setIfInBounds_toArray, List.set_cons_zero, List.set_cons_succ]
             clear a0 a1 f0 f1 fl
             go_wp2_with fail
             go_meet
             exact ⟨_, rfl, rfl, RA.set2 _ _, (hbu4.setCell (hp := hA) (p := ⟨u3.heap.size, 0, none⟩) _).setCell (hp := hA) (p := ⟨u3.heap.size, 1, none⟩) _⟩
            ·
             go_simp
             obtain ⟨u3, hwu3⟩ : ∃ X, World.alloc u2 (.cells #[.int .i64 0, .int .i64 0] 33) = X := ⟨_, rfl⟩
             rw [hwu3]
             have hsu3 : Below u2.heap.size u2 u3 := by rw [← hwu3]; exact (Below.refl _ _).alloc (Nat.le_refl _) _
             have hbu3 : Below w9.heap.size w9 u3 := hbu2.trans (hsu3.mono hbu2.size)
             have hA : w9.heap.size ≤ u2.heap.size := hbu2.size
             have RA : Row u3 u2.heap.size [.int .i64 0, .int .i64 0] := by rw [← hwu3]; exact Row.new' _ _ _ rfl
             clear hwu3
             refine hKz _ _ (fun _ => HS.out _ hbu3) ?_
             clear hKz Kz
             refine AnyJ.one (i := 5) (by kernel_rfl) rfl (fun Kz hKz => ?_)
             go_simp
             refine (eval_p z v0 v1 v2 v3 u3 (HYI.out.step hbu3) za zb ze HYV.out).mono ?_
             rintro e u4 ⟨rfl, hsu4⟩
             have hbu4 : Below w9.heap.size w9 u4 := hbu3.trans (hsu4.mono hbu3.size)
             have hS := HS.out _ hbu4
             refine hKz _ _ (fun _ => hS) ?_
             clear hKz Kz
             refine AnyJ.takeD (i := 6) (d := some 119) (v := ?_) rfl (by kernel_rfl) (by kernel_rfl) (by kernel_rfl) (by kernel_rfl) (by kernel_rfl) (fun _ _ _ h => h) (Or.inl ⟨by kernel_rfl, ?_⟩) hS ?_
             rotate_left
             ·
              intro w' hS
              obtain ⟨⟨sE0, sE1, sE2⟩, ⟨sV0, sV1, sV2, sV3⟩, sK0, sK1, sK2⟩ := hS
              go_simp
              try with_reducible rfl
             refine AnyJ.takeD (i := 7) (d := some 126) (v := ?_) rfl (by kernel_rfl) (by kernel_rfl) (by kernel_rfl) (by kernel_rfl) (by kernel_rfl) (fun _ _ _ h => h) (Or.inl ⟨by kernel_rfl, ?_⟩) hS ?_
             rotate_left
             ·
              intro w' hS
              obtain ⟨⟨sE0, sE1, sE2⟩, ⟨sV0, sV1, sV2, sV3⟩, sK0, sK1, sK2⟩ := hS
              go_simp
              try with_reducible rfl
             refine AnyJ.takeD (i := 8) (d := some 127) (v := ?_) rfl (by kernel_rfl) (by kernel_rfl) (by kernel_rfl) (by kernel_rfl) (by kernel_rfl) (fun _ _ _ h => h) (Or.inl ⟨by kernel_rfl, ?_⟩) hS ?_
             rotate_left
             ·
              intro w' hS
              obtain ⟨⟨sE0, sE1, sE2⟩, ⟨sV0, sV1, sV2, sV3⟩, sK0, sK1, sK2⟩ := hS
              go_simp
              try with_reducible rfl
             clear hS
             replace RA := RA.step hsu4
             have a0 := RA.cell 0 rfl
             have a1 := RA.cell 1 rfl
             have f0 := RA.frozen 0
             have f1 := RA.frozen 1
             have fl := RA.lt
             refine AnyJ.one (i := 10) (by kernel_rfl) rfl (fun Kz hKz => ?_)
             go_simp
             refine hKz _ _ (fun _ => HS.out _ ((hbu4.setCell (hp := hA) (p := ⟨u2.heap.size, 0, none⟩) _).setCell (hp := hA) (p := ⟨u2.heap.size, 1, none⟩) _)) ?_
             clear hKz Kz
             refine AnyJ.one (i := 11) (by kernel_rfl) rfl (fun Kz hKz => ?_)
             go_simp
             refine hKz _ _ (fun h => by cases h) ?_
             clear hKz Kz
             refine AnyJ.done (by kernel_rfl) ?_ _
             try simp only [Act.put, List.setIfInBounds_toArray, List.set_cons_zero, List.set_cons_succ]
             clear a0 a1 f0 f1 fl
             go_wp2_with fail
             go_meet
             exact ⟨_, rfl, rfl, RA.set2 _ _, (hbu4.setCell (hp := hA) (p := ⟨u2.heap.size, 0, none⟩) _).setCell (hp := hA) (p := ⟨u2.heap.size, 1, none⟩) _⟩
           case' rest =>
            obtain ⟨Az, rfl, rfl, RAz, hb10⟩ := hcut
            obtain ⟨w10, hw10⟩ : ∃ wd, wd = wc := ⟨_, rfl⟩
            subst hw10
            clear HS HYI
            have R_v_10 : Row w10 (w.heap.size + 1) [.int .i64 (v0), .int .i64 (v1), .int .i64 (v2), .int .i64 (v3)] := by (repeat' (first | (with_reducible assumption) | (with_reducible refine Row.new' _ _ _ (by first | rfl | (simp; done) | omega)) | (with_reducible first | refine Row.alloc ?_ _ | refine Row.drew ?_ | refine Row.step ?_ (by assumption) | refine Row.drewN ?_ _) | (with_reducible refine Row.set2' ?_ _ _; first | exact ⟨_, _, by assumption⟩ | exact ⟨_, _, Row.alloc (by assumption) _⟩) | (with_reducible refine Row.other ?_ (by first | omega | (simp; omega)) _)))
            have c_v_0_10 := R_v_10.cell 0 rfl
            have c_v_1_10 := R_v_10.cell 1 rfl
            have c_v_2_10 := R_v_10.cell 2 rfl
            have c_v_3_10 := R_v_10.cell 3 rfl
            have l_v_10 := R_v_10.lt
            have R_r_10 : Row w10 (w6.heap.size) [.int .i64 (N), .int .i64 (D)] := by (repeat' (first | (with_reducible assumption) | (with_reducible refine Row.new' _ _ _ (by first | rfl | (simp; done) | omega)) | (with_reducible first | refine Row.alloc ?_ _ | refine Row.drew ?_ | refine Row.step ?_ (by assumption) | refine Row.drewN ?_ _) | (with_reducible refine Row.set2' ?_ _ _; first | exact ⟨_, _, by assumption⟩ | exact ⟨_, _, Row.alloc (by assumption) _⟩) | (with_reducible refine Row.other ?_ (by first | omega | (simp; omega)) _)))
            have c_r_0_10 := R_r_10.cell 0 rfl
            have c_r_1_10 := R_r_10.cell 1 rfl
            have l_r_10 := R_r_10.lt
            have R_e_10 : Row w10 (w.heap.size) [.int .i64 op, .int .i64 n, .slice (some ⟨b, off, none⟩) ks.length cap] := by (repeat' (first | (with_reducible assumption) | (with_reducible refine Row.new' _ _ _ (by first | rfl | (simp; done) | omega)) | (with_reducible first | refine Row.alloc ?_ _ | refine Row.drew ?_ | refine Row.step ?_ (by assumption) | refine Row.drewN ?_ _) | (with_reducible refine Row.set2' ?_ _ _; first | exact ⟨_, _, by assumption⟩ | exact ⟨_, _, Row.alloc (by assumption) _⟩) | (with_reducible refine Row.other ?_ (by first | omega | (simp; omega)) _)))
            have c_e_0_10 := R_e_10.cell 0 rfl
            have c_e_1_10 := R_e_10.cell 1 rfl
            have c_e_2_10 := R_e_10.cell 2 rfl
            have l_e_10 := R_e_10.lt
            have R_y_10 : Row w10 (Ay) [.int .i64 (ya), .int .i64 (yb)] := by (repeat' (first | (with_reducible assumption) | (with_reducible refine Row.new' _ _ _ (by first | rfl | (simp; done) | omega)) | (with_reducible first | refine Row.alloc ?_ _ | refine Row.drew ?_ | refine Row.step ?_ (by assumption) | refine Row.drewN ?_ _) | (with_reducible refine Row.set2' ?_ _ _; first | exact ⟨_, _, by assumption⟩ | exact ⟨_, _, Row.alloc (by assumption) _⟩) | (with_reducible refine Row.other ?_ (by first | omega | (simp; omega)) _)))
            have c_y_0_10 := R_y_10.cell 0 rfl
            have c_y_1_10 := R_y_10.cell 1 rfl
            have l_y_10 := R_y_10.lt
            have R_u_10 : Row w10 (w8.heap.size) [.int .i64 (1), .int .i64 (1)] := by (repeat' (first | (with_reducible assumption) | (with_reducible refine Row.new' _ _ _ (by first | rfl | (simp; done) | omega)) | (with_reducible first | refine Row.alloc ?_ _ | refine Row.drew ?_ | refine Row.step ?_ (by assumption) | refine Row.drewN ?_ _) | (with_reducible refine Row.set2' ?_ _ _; first | exact ⟨_, _, by assumption⟩ | exact ⟨_, _, Row.alloc (by assumption) _⟩) | (with_reducible refine Row.other ?_ (by first | omega | (simp; omega)) _)))
            have c_u_0_10 := R_u_10.cell 0 rfl
            have c_u_1_10 := R_u_10.cell 1 rfl
            have l_u_10 := R_u_10.lt
            have HB10 : Below w.heap.size w w10 := by (repeat' (first | (with_reducible first | exact Below.refl _ _ | assumption | exact Bw.out (by assumption) | refine bw_alloc ?_ _ | refine bw_step ?_ (by assumption) | refine Below.alloc ?_ ?_ _ | refine Below.drew ?_ | refine below_drewN ?_ _ | refine Below.setCell ?_ ?_ _ | refine below_step ?_ (by assumption) ?_ | exact Nat.le_refl _) | omega | (simp; omega) | (simp; done)))
            clear R_v_9 c_v_0_9 c_v_1_9 c_v_2_9 c_v_3_9 R_r_9 c_r_0_9 c_r_1_9 R_e_9 c_e_0_9 c_e_1_9 c_e_2_9 R_y_9 c_y_0_9 c_y_1_9 R_u_9 c_u_0_9 c_u_1_9 hb9 hw9
            have R_z_10 := RAz
            have c_z_0_10 := RAz.cell 0 rfl
            have c_z_1_10 := RAz.cell 1 rfl
            have l_z_10 := RAz.lt
            clear RAz
            have hx := ev_else (v := var4 v0 v1 v2 v3) (x := .node op n (some ⟨b, off, none⟩) cap ks) HOP10.out hy.out (by rw [HyV.out]; exact HYE.out) (by rw [HyV.out]; exact hya) hz.out
            rw [HR.out, HzV.out] at hx
            simp only [Prod.mk.injEq] at hx
            obtain ⟨hx1, hx2, hx3⟩ := hx
            subst N D E
            clear hya
            go_wp2_with fail
            go_ret
            refine ⟨(by first | rfl | exact ret_bool (by first | rfl | (simp; done) | (simp; omega))), ?_⟩
            (repeat' (first | (with_reducible first | exact Below.refl _ _ | assumption | exact Bw.out (by assumption) | refine bw_alloc ?_ _ | refine bw_step ?_ (by assumption) | refine Below.alloc ?_ ?_ _ | refine Below.drew ?_ | refine below_drewN ?_ _ | refine Below.setCell ?_ ?_ _ | refine below_step ?_ (by assumption) ?_ | exact Nat.le_refl _) | omega | (simp; omega) | (simp; done)))
         ·
          have h10' : (op == 10) = false := by simpa using h10
          go_upto_region 17 with fail
          obtain ⟨w9, hw9⟩ : ∃ x, World.alloc w8 (.cells #[.int .i64 1, .int .i64 1] 33) = x := ⟨_, rfl⟩
          rw [hw9]
          have hb9 : Below w8.heap.size w8 w9 := by rw [← hw9]; (repeat' (first | (with_reducible first | exact Below.refl _ _ | assumption | exact Bw.out (by assumption) | refine bw_alloc ?_ _ | refine bw_step ?_ (by assumption) | refine Below.alloc ?_ ?_ _ | refine Below.drew ?_ | refine below_drewN ?_ _ | refine Below.setCell ?_ ?_ _ | refine below_step ?_ (by assumption) ?_ | exact Nat.le_refl _) | omega | (simp; omega) | (simp; done)))
          have R_v_9 : Row w9 (w.heap.size + 1) [.int .i64 (v0), .int .i64 (v1), .int .i64 (v2), .int .i64 (v3)] := by rw [← hw9]; (repeat' (first | (with_reducible assumption) | (with_reducible refine Row.new' _ _ _ (by first | rfl | (simp; done) | omega)) | (with_reducible first | refine Row.alloc ?_ _ | refine Row.drew ?_ | refine Row.step ?_ (by assumption) | refine Row.drewN ?_ _) | (with_reducible refine Row.set2' ?_ _ _; first | exact ⟨_, _, by assumption⟩ | exact ⟨_, _, Row.alloc (by assumption) _⟩) | (with_reducible refine Row.other ?_ (by first | omega | (simp; omega)) _)))
          have c_v_0_9 := R_v_9.cell 0 rfl
          have c_v_1_9 := R_v_9.cell 1 rfl
          have c_v_2_9 := R_v_9.cell 2 rfl
          have c_v_3_9 := R_v_9.cell 3 rfl
          have l_v_9 := R_v_9.lt
          have R_r_9 : Row w9 (w6.heap.size) [.int .i64 (N), .int .i64 (D)] := by rw [← hw9]; (repeat' (first | (with_reducible assumption) | (with_reducible refine Row.new' _ _ _ (by first | rfl | (simp; done) | omega)) | (with_reducible first | refine Row.alloc ?_ _ | refine Row.drew ?_ | refine Row.step ?_ (by assumption) | refine Row.drewN ?_ _) | (with_reducible refine Row.set2' ?_ _ _; first | exact ⟨_, _, by assumption⟩ | exact ⟨_, _, Row.alloc (by assumption) _⟩) | (with_reducible refine Row.other ?_ (by first | omega | (simp; omega)) _)))
          have c_r_0_9 := R_r_9.cell 0 rfl
          have c_r_1_9 := R_r_9.cell 1 rfl
          have l_r_9 := R_r_9.lt
          have R_e_9 : Row w9 (w.heap.size) [.int .i64 op, .int .i64 n, .slice (some ⟨b, off, none⟩) ks.length cap] := by rw [← hw9]; (repeat' (first | (with_reducible assumption) | (with_reducible refine Row.new' _ _ _ (by first | rfl | (simp; done) | omega)) | (with_reducible first | refine Row.alloc ?_ _ | refine Row.drew ?_ | refine Row.step ?_ (by assumption) | refine Row.drewN ?_ _) | (with_reducible refine Row.set2' ?_ _ _; first | exact ⟨_, _, by assumption⟩ | exact ⟨_, _, Row.alloc (by assumption) _⟩) | (with_reducible refine Row.other ?_ (by first | omega | (simp; omega)) _)))
          have c_e_0_9 := R_e_9.cell 0 rfl
          have c_e_1_9 := R_e_9.cell 1 rfl
          have c_e_2_9 := R_e_9.cell 2 rfl
          have l_e_9 := R_e_9.lt
          have R_y_9 : Row w9 (Ay) [.int .i64 (ya), .int .i64 (yb)] := by rw [← hw9]; (repeat' (first | (with_reducible assumption) | (with_reducible refine Row.new' _ _ _ (by first | rfl | (simp; done) | omega)) | (with_reducible first | refine Row.alloc ?_ _ | refine Row.drew ?_ | refine Row.step ?_ (by assumption) | refine Row.drewN ?_ _) | (with_reducible refine Row.set2' ?_ _ _; first | exact ⟨_, _, by assumption⟩ | exact ⟨_, _, Row.alloc (by assumption) _⟩) | (with_reducible refine Row.other ?_ (by first | omega | (simp; omega)) _)))
          have c_y_0_9 := R_y_9.cell 0 rfl
          have c_y_1_9 := R_y_9.cell 1 rfl
          have l_y_9 := R_y_9.lt
          have R_u_9 : Row w9 (w8.heap.size) [.int .i64 (1), .int .i64 (1)] := by rw [← hw9]; (repeat' (first | (with_reducible assumption) | (with_reducible refine Row.new' _ _ _ (by first | rfl | (simp; done) | omega)) | (with_reducible first | refine Row.alloc ?_ _ | refine Row.drew ?_ | refine Row.step ?_ (by assumption) | refine Row.drewN ?_ _) | (with_reducible refine Row.set2' ?_ _ _; first | exact ⟨_, _, by assumption⟩ | exact ⟨_, _, Row.alloc (by assumption) _⟩) | (with_reducible refine Row.other ?_ (by first | omega | (simp; omega)) _)))
          have c_u_0_9 := R_u_9.cell 0 rfl
          have c_u_1_9 := R_u_9.cell 1 rfl
          have l_u_9 := R_u_9.lt
          have HB9 := HB8.trans (hb9.mono HB8.size)
          have hs9 := hb9.size
          have hz9 := HB9.size
          clear R_v_8 c_v_0_8 c_v_1_8 c_v_2_8 c_v_3_8 R_r_8 c_r_0_8 c_r_1_8 R_e_8 c_e_0_8 c_e_1_8 c_e_2_8 hb8 HB8
          obtain ⟨z, b', off', hz, hzin, e', hlz, d0, d1, d2⟩ := HIN.out.kidAt (Below.refl _ w) (k := 1) (by show 1 < ks.length; omega)
          cases e'
          obtain ⟨za, zb, ze, hzv⟩ : ∃ a b e, z.ev (var4 v0 v1 v2 v3) = (a, b, e) := ⟨_, _, _, rfl⟩
          have HzV := Lib.hid hzv
          have HYV : Hid (evalV z v0 v1 v2 v3 = (za, zb, ze)) := by
           show _ = _
           rw [← hzv]
           exact evalV_kid P2.out P4.out hz.out P3.out
          have HYI := Lib.hid (hzin.step HB9)
          have HS : Hid (∀ W, Below w9.heap.size w9 W → RdR w.heap.size v0 v1 v2 v3 op n b off ks.length cap (off + 3) (off + 4) (off + 5) z W) := fun W h =>
           ⟨⟨(R_e_9.step h).cell 0 rfl, (R_e_9.step h).cell 1 rfl, (R_e_9.step h).cell 2 rfl⟩, ⟨(R_v_9.step h).cell 0 rfl, (R_v_9.step h).cell 1 rfl, (R_v_9.step h).cell 2 rfl, (R_v_9.step h).cell 3 rfl⟩,
            ((HB9.trans (h.mono HB9.size)).cell (p := ⟨b, _, none⟩) hlz).trans d0, ((HB9.trans (h.mono HB9.size)).cell (p := ⟨b, _, none⟩) hlz).trans d1, ((HB9.trans (h.mono HB9.size)).cell (p := ⟨b, _, none⟩) hlz).trans d2⟩
          clear hzin d0 d1 d2 hzv
          go_cut [15, 16] from 139 to 147 (fun v u wx => ∃ A : Nat, v = .pointer (some ⟨A, 0, none⟩) ∧ u = .int .i64 ze ∧ Row wx A [.int .i64 za, .int .i64 zb] ∧ Below w9.heap.size w9 wx)
          case first =>
           refine AnyJ.beginP (RdR w.heap.size v0 v1 v2 v3 op n b off ks.length cap (off + 3) (off + 4) (off + 5) z) (fun j => decide (j ≤ 10)) (by kernel_rfl) (HS.out _ (Below.refl _ _).drew) (fun hS => ?_)
           obtain ⟨u2, hu2⟩ : ∃ X, World.drew w9 = X := ⟨_, rfl⟩
           have hbu2 : Below w9.heap.size w9 u2 := by rw [← hu2]; exact (Below.refl _ _).drew
           rw [hu2] at hS ⊢
           clear hu2
           refine AnyJ.takeD (i := 0) (d := some 140) (v := ?_) rfl (by kernel_rfl) (by kernel_rfl) (by kernel_rfl) (by kernel_rfl) (by kernel_rfl) (fun _ _ _ h => h) (Or.inl ⟨by kernel_rfl, ?_⟩) hS ?_
           rotate_left
           ·
            intro w' hS
            obtain ⟨⟨sE0, sE1, sE2⟩, ⟨sV0, sV1, sV2, sV3⟩, sK0, sK1, sK2⟩ := hS
            go_simp
            try with_reducible rfl
           refine AnyJ.takeD (i := 1) (d := some 141) (v := ?_) rfl (by kernel_rfl) (by kernel_rfl) (by kernel_rfl) (by kernel_rfl) (by kernel_rfl) (fun _ _ _ h => h) (Or.inl ⟨by kernel_rfl, ?_⟩) hS ?_
           rotate_left
           ·
            intro w' hS
            obtain ⟨⟨sE0, sE1, sE2⟩, ⟨sV0, sV1, sV2, sV3⟩, sK0, sK1, sK2⟩ := hS
            go_simp
            try with_reducible rfl
           refine AnyJ.takeD (i := 2) (d := some 142) (v := ?_) rfl (by kernel_rfl) (by kernel_rfl) (by kernel_rfl) (by kernel_rfl) (by kernel_rfl) (fun _ _ _ h => h) (Or.inl ⟨by kernel_rfl, ?_⟩) hS ?_
           rotate_left
           ·
            intro w' hS
            obtain ⟨⟨sE0, sE1, sE2⟩, ⟨sV0, sV1, sV2, sV3⟩, sK0, sK1, sK2⟩ := hS
            go_simp
            try with_reducible rfl
           refine AnyJ.takeD (i := 3) (d := some 143) (v := ?_) rfl (by kernel_rfl) (by kernel_rfl) (by kernel_rfl) (by kernel_rfl) (by kernel_rfl) (fun _ _ _ h => h) (Or.inl ⟨by kernel_rfl, ?_⟩) hS ?_
           rotate_left
           ·
            intro w' hS
            obtain ⟨⟨sE0, sE1, sE2⟩, ⟨sV0, sV1, sV2, sV3⟩, sK0, sK1, sK2⟩ := hS
            go_simp
            try with_reducible rfl
           refine AnyJ.takeD (i := 4) (d := some 144) (v := ?_) rfl (by kernel_rfl) (by kernel_rfl) (by kernel_rfl) (by kernel_rfl) (by kernel_rfl) (fun _ _ _ h => h) (Or.inl ⟨by kernel_rfl, ?_⟩) hS ?_
           rotate_left
           ·
            intro w' hS
            obtain ⟨⟨sE0, sE1, sE2⟩, ⟨sV0, sV1, sV2, sV3⟩, sK0, sK1, sK2⟩ := hS
            go_simp
            try with_reducible rfl
           clear hS
           refine AnyJ.two (i := 5) (j := 9) (by kernel_rfl) rfl rfl (fun Kz hKz => ?_) (fun Kz hKz => ?_)
           ·
            go_simp
            refine (eval_p z v0 v1 v2 v3 u2 (HYI.out.step hbu2) za zb ze HYV.out).mono ?_
            rintro e u3 ⟨rfl, hsu3⟩
            have hbu3 : Below w9.heap.size w9 u3 := hbu2.trans (hsu3.mono hbu2.size)
            have hS := HS.out _ hbu3
            refine hKz _ _ (fun _ => hS) ?_
            clear hKz Kz
            refine AnyJ.takeD (i := 6) (d := some 139) (v := ?_) rfl (by kernel_rfl) (by kernel_rfl) (by kernel_rfl) (by kernel_rfl) (by kernel_rfl) (fun _ _ _ h => h) (Or.inl ⟨by kernel_rfl, ?_⟩) hS ?_
            rotate_left
            ·
             intro w' hS
             obtain ⟨⟨sE0, sE1, sE2⟩, ⟨sV0, sV1, sV2, sV3⟩, sK0, sK1, sK2⟩ := hS
             go_simp
             try with_reducible rfl
            refine AnyJ.takeD (i := 7) (d := some 146) (v := ?_) rfl (by kernel_rfl) (by kernel_rfl) (by kernel_rfl) (by kernel_rfl) (by kernel_rfl) (fun _ _ _ h => h) (Or.inl ⟨by kernel_rfl, ?_⟩) hS ?_
            rotate_left
            ·
             intro w' hS
             obtain ⟨⟨sE0, sE1, sE2⟩, ⟨sV0, sV1, sV2, sV3⟩, sK0, sK1, sK2⟩ := hS
             go_simp
             try with_reducible rfl
            refine AnyJ.takeD (i := 8) (d := some 147) (v := ?_) rfl (by kernel_rfl) (by kernel_rfl) (by kernel_rfl) (by kernel_rfl) (by kernel_rfl) (fun _ _ _ h => h) (Or.inl ⟨by kernel_rfl, ?_⟩) hS ?_
            rotate_left
            ·
             intro w' hS
             obtain ⟨⟨sE0, sE1, sE2⟩, ⟨sV0, sV1, sV2, sV3⟩, sK0, sK1, sK2⟩ := hS
             go_simp
             try with_reducible rfl
            clear hS
            refine AnyJ.one (i := 9) (by kernel_rfl) rfl (fun Kz hKz => ?_)
            go_simp
            obtain ⟨u4, hwu4⟩ : ∃ X, World.alloc u3 (.cells #[.int .i64 0, .int .i64 0] 33) = X := ⟨_, rfl⟩
            rw [hwu4]
            have hsu4 : Below u3.heap.size u3 u4 := by rw [← hwu4]; exact (Below.refl _ _).alloc (Nat.le_refl _) _
            have hbu4 : Below w9.heap.size w9 u4 := hbu3.trans (hsu4.mono hbu3.size)
            have hA : w9.heap.size ≤ u3.heap.size := hbu3.size
            have RA : Row u4 u3.heap.size [.int .i64 0, .int .i64 0] := by rw [← hwu4]; exact Row.new' _ _ _ rfl
            clear hwu4
            refine hKz _ _ (fun _ => HS.out _ hbu4) ?_
            clear hKz Kz
            have a0 := RA.cell 0 rfl
            have a1 := RA.cell 1 rfl
            have f0 := RA.frozen 0
            have f1 := RA.frozen 1
            have fl := RA.lt
            refine AnyJ.one (i := 10) (by kernel_rfl) rfl (fun Kz hKz => ?_)
            go_simp
            refine hKz _ _ (fun _ => HS.out _ ((hbu4.setCell (hp := hA) (p := ⟨u3.heap.size, 0, none⟩) _).setCell (hp := hA) (p := ⟨u3.heap.size, 1, none⟩) _)) ?_
            clear hKz Kz
            refine AnyJ.one (i := 11) (by kernel_rfl) rfl (fun Kz hKz => ?_)
            go_simp
            refine hKz _ _ (fun h => by cases h) ?_
            clear hKz Kz
            refine AnyJ.done (by kernel_rfl) ?_ _
            try simp only [Act.put, List.setIfInBounds_toArray, List.set_cons_zero, List.set_cons_succ]
            clear a0 a1 f0 f1 fl
            go_wp2_with fail
            go_meet
            exact ⟨_, rfl, rfl, RA.set2 _ _, (hbu4.setCell (hp := hA) (p := ⟨u3.heap.size, 0, none⟩) _).setCell (hp := hA) (p := ⟨u3.heap.size, 1, none⟩) _⟩
           ·
            go_simp
            obtain ⟨u3, hwu3⟩ : ∃ X, World.alloc u2 (.cells #[.int .i64 0, .int .i64 0] 33) = X := ⟨_, rfl⟩
            rw [hwu3]
            have hsu3 : Below u2.heap.size u2 u3 := by rw [← hwu3]; exact (Below.refl _ _).alloc (Nat.le_refl _) _
            have hbu3 : Below w9.heap.size w9 u3 := hbu2.trans (hsu3.mono hbu2.size)
            have hA : w9.heap.size ≤ u2.heap.size := hbu2.size
            have RA : Row u3 u2.heap.size [.int .i64 0, .int .i64 0] := by rw [← hwu3]; exact Row.new' _ _ _ rfl
            clear hwu3
            refine hKz _ _ (fun _ => HS.out _ hbu3) ?_
            clear hKz Kz
            refine AnyJ.one (i := 5) (by kernel_rfl) rfl (fun Kz hKz => ?_)
            go_simp
            refine (eval_p z v0 v1 v2 v3 u3 (HYI.out.step hbu3) za zb ze HYV.out).mono ?_
            rintro e u4 ⟨rfl, hsu4⟩
            have hbu4 : Below w9.heap.size w9 u4 := hbu3.trans (hsu4.mono hbu3.size)
            have hS := HS.out _ hbu4
            refine hKz _ _ (fun _ => hS) ?_
            clear hKz Kz
            refine AnyJ.takeD (i := 6) (d := some 139) (v := ?_) rfl (by kernel_rfl) (by kernel_rfl) (by kernel_rfl) (by kernel_rfl) (by kernel_rfl) (fun _ _ _ h => h) (Or.inl ⟨by kernel_rfl, ?_⟩) hS ?_
            rotate_left
            ·
             intro w' hS
             obtain ⟨⟨sE0, sE1, sE2⟩, ⟨sV0, sV1, sV2, sV3⟩, sK0, sK1, sK2⟩ := hS
             go_simp
             try with_reducible rfl
            refine AnyJ.takeD (i := 7) (d := some 146) (v := ?_) rfl (by kernel_rfl) (by kernel_rfl) (by kernel_rfl) (by kernel_rfl) (by kernel_rfl) (fun _ _ _ h => h) (Or.inl ⟨by kernel_rfl, ?_⟩) hS ?_
            rotate_left
            ·
             intro w' hS
             obtain ⟨⟨sE0, sE1, sE2⟩, ⟨sV0, sV1, sV2, sV3⟩, sK0, sK1, sK2⟩ := hS
             go_simp
             try with_reducible rfl
            refine AnyJ.takeD (i := 8) (d := some 147) (v := ?_) rfl (by kernel_rfl) (by kernel_rfl) (by kernel_rfl) (by kernel_rfl) (by kernel_rfl) (fun _ _ _ h => h) (Or.inl ⟨by kernel_rfl, ?_⟩) hS ?_
            rotate_left
            ·
             intro w' hS
             obtain ⟨⟨sE0, sE1, sE2⟩, ⟨sV0, sV1, sV2, sV3⟩, sK0, sK1, sK2⟩ := hS
             go_simp
             try with_reducible rfl
            clear hS
            replace RA := RA.step hsu4
            have a0 := RA.cell 0 rfl
            have a1 := RA.cell 1 rfl
            have f0 := RA.frozen 0
            have f1 := RA.frozen 1
            have fl := RA.lt
            refine AnyJ.one (i := 10) (by kernel_rfl) rfl (fun Kz hKz => ?_)
            go_simp
            refine hKz _ _ (fun _ => HS.out _ ((hbu4.setCell (hp := hA) (p := ⟨u2.heap.size, 0, none⟩) _).setCell (hp := hA) (p := ⟨u2.heap.size, 1, none⟩) _)) ?_
            clear hKz Kz
            refine AnyJ.one (i := 11) (by kernel_rfl) rfl (fun Kz hKz => ?_)
            go_simp
            refine hKz _ _ (fun h => by cases h) ?_
            clear hKz Kz
            refine AnyJ.done (by kernel_rfl) ?_ _
            try simp only [Act.put, List.setIfInBounds_toArray, List.set_cons_zero, List.set_cons_succ]
            clear a0 a1 f0 f1 fl
            go_wp2_with fail
            go_meet
            exact ⟨_, rfl, rfl, RA.set2 _ _, (hbu4.setCell (hp := hA) (p := ⟨u2.heap.size, 0, none⟩) _).setCell (hp := hA) (p := ⟨u2.heap.size, 1, none⟩) _⟩
          case' rest =>
           obtain ⟨Az, rfl, rfl, RAz, hb10⟩ := hcut
           obtain ⟨w10, hw10⟩ : ∃ wd, wd = wc := ⟨_, rfl⟩
           subst hw10
           clear HS HYI
           have R_v_10 : Row w10 (w.heap.size + 1) [.int .i64 (v0), .int .i64 (v1), .int .i64 (v2), .int .i64 (v3)] := by (repeat' (first | (with_reducible assumption) | (with_reducible refine Row.new' _ _ _ (by first | rfl | (simp; done) | omega)) | (with_reducible first | refine Row.alloc ?_ _ | refine Row.drew ?_ | refine Row.step ?_ (by assumption) | refine Row.drewN ?_ _) | (with_reducible refine Row.set2' ?_ _ _; first | exact ⟨_, _, by assumption⟩ | exact ⟨_, _, Row.alloc (by assumption) _⟩) | (with_reducible refine Row.other ?_ (by first | omega | (simp; omega)) _)))
           have c_v_0_10 := R_v_10.cell 0 rfl
           have c_v_1_10 := R_v_10.cell 1 rfl
           have c_v_2_10 := R_v_10.cell 2 rfl
           have c_v_3_10 := R_v_10.cell 3 rfl
           have l_v_10 := R_v_10.lt
           have R_r_10 : Row w10 (w6.heap.size) [.int .i64 (N), .int .i64 (D)] := by (repeat' (first | (with_reducible assumption) | (with_reducible refine Row.new' _ _ _ (by first | rfl | (simp; done) | omega)) | (with_reducible first | refine Row.alloc ?_ _ | refine Row.drew ?_ | refine Row.step ?_ (by assumption) | refine Row.drewN ?_ _) | (with_reducible refine Row.set2' ?_ _ _; first | exact ⟨_, _, by assumption⟩ | exact ⟨_, _, Row.alloc (by assumption) _⟩) | (with_reducible refine Row.other ?_ (by first | omega | (simp; omega)) _)))
           have c_r_0_10 := R_r_10.cell 0 rfl
           have c_r_1_10 := R_r_10.cell 1 rfl
           have l_r_10 := R_r_10.lt
           have R_e_10 : Row w10 (w.heap.size) [.int .i64 op, .int .i64 n, .slice (some ⟨b, off, none⟩) ks.length cap] := by (repeat' (first | (with_reducible assumption) | (with_reducible refine Row.new' _ _ _ (by first | rfl | (simp; done) | omega)) | (with_reducible first | refine Row.alloc ?_ _ | refine Row.drew ?_ | refine Row.step ?_ (by assumption) | refine Row.drewN ?_ _) | (with_reducible refine Row.set2' ?_ _ _; first | exact ⟨_, _, by assumption⟩ | exact ⟨_, _, Row.alloc (by assumption) _⟩) | (with_reducible refine Row.other ?_ (by first | omega | (simp; omega)) _)))
           have c_e_0_10 := R_e_10.cell 0 rfl
           have c_e_1_10 := R_e_10.cell 1 rfl
           have c_e_2_10 := R_e_10.cell 2 rfl
           have l_e_10 := R_e_10.lt
           have R_y_10 : Row w10 (Ay) [.int .i64 (ya), .int .i64 (yb)] := by (repeat' (first | (with_reducible assumption) | (with_reducible refine Row.new' _ _ _ (by first | rfl | (simp; done) | omega)) | (with_reducible first | refine Row.alloc ?_ _ | refine Row.drew ?_ | refine Row.step ?_ (by assumption) | refine Row.drewN ?_ _) | (with_reducible refine Row.set2' ?_ _ _; first | exact ⟨_, _, by assumption⟩ | exact ⟨_, _, Row.alloc (by assumption) _⟩) | (with_reducible refine Row.other ?_ (by first | omega | (simp; omega)) _)))
           have c_y_0_10 := R_y_10.cell 0 rfl
           have c_y_1_10 := R_y_10.cell 1 rfl
           have l_y_10 := R_y_10.lt
           have R_u_10 : Row w10 (w8.heap.size) [.int .i64 (1), .int .i64 (1)] := by (repeat' (first | (with_reducible assumption) | (with_reducible refine Row.new' _ _ _ (by first | rfl | (simp; done) | omega)) | (with_reducible first | refine Row.alloc ?_ _ | refine Row.drew ?_ | refine Row.step ?_ (by assumption) | refine Row.drewN ?_ _) | (with_reducible refine Row.set2' ?_ _ _; first | exact ⟨_, _, by assumption⟩ | exact ⟨_, _, Row.alloc (by assumption) _⟩) | (with_reducible refine Row.other ?_ (by first | omega | (simp; omega)) _)))
           have c_u_0_10 := R_u_10.cell 0 rfl
           have c_u_1_10 := R_u_10.cell 1 rfl
           have l_u_10 := R_u_10.lt
           have HB10 : Below w.heap.size w w10 := by (repeat' (first | (with_reducible first | exact Below.refl _ _ | assumption | exact Bw.out (by assumption) | refine bw_alloc ?_ _ | refine bw_step ?_ (by assumption) | refine Below.alloc ?_ ?_ _ | refine Below.drew ?_ | refine below_drewN ?_ _ | refine Below.setCell ?_ ?_ _ | refine below_step ?_ (by assumption) ?_ | exact Nat.le_refl _) | omega | (simp; omega) | (simp; done)))
           clear R_v_9 c_v_0_9 c_v_1_9 c_v_2_9 c_v_3_9 R_r_9 c_r_0_9 c_r_1_9 R_e_9 c_e_0_9 c_e_1_9 c_e_2_9 R_y_9 c_y_0_9 c_y_1_9 R_u_9 c_u_0_9 c_u_1_9 hb9 hw9
           have R_z_10 := RAz
           have c_z_0_10 := RAz.cell 0 rfl
           have c_z_1_10 := RAz.cell 1 rfl
           have l_z_10 := RAz.lt
           clear RAz
           by_cases hze : ze = 0
           ·
            have hze' : (ze != 0) = false := by simpa using hze
            have hx := ev_two (v := var4 v0 v1 v2 v3) (x := .node op n (some ⟨b, off, none⟩) cap ks) o4 ⟨h10, h15⟩ hy.out (by rw [HyV.out]; exact HYE.out) hz.out (by rw [HzV.out]; exact hze)
            rw [HR.out, HyV.out, HzV.out] at hx
            have HAP : Hid (ap2 op ya yb za zb = (N, D, E)) := hx.symm
            have hvy : vldP ya yb := by have h := (y.good (var4 v0 v1 v2 v3)).1; rw [HyV.out] at h; exact h HYE.out
            have hvz : vldP za zb := by have h := (z.good (var4 v0 v1 v2 v3)).1; rw [HzV.out] at h; exact h hze
            have HVY := Lib.hid hvy
            have HVZ := Lib.hid hvz
            have h14 : op ≤ 14 := by have h : op ≤ 15 := o2; omega
            have HOP : Hid (op ≠ 10) := h10
            clear hze hx hvy hvz h10 h15
            go_wp2_with fail
            refine (R_apply_p op ya yb za zb N D E o4 h14 HOP.out HVY.out HVZ.out HAP.out _).mono ?_
            rintro e w11 ⟨rfl, hb11⟩
            have R_v_11 : Row w11 (w.heap.size + 1) [.int .i64 (v0), .int .i64 (v1), .int .i64 (v2), .int .i64 (v3)] := by (repeat' (first | (with_reducible assumption) | (with_reducible refine Row.new' _ _ _ (by first | rfl | (simp; done) | omega)) | (with_reducible first | refine Row.alloc ?_ _ | refine Row.drew ?_ | refine Row.step ?_ (by assumption) | refine Row.drewN ?_ _) | (with_reducible refine Row.set2' ?_ _ _; first | exact ⟨_, _, by assumption⟩ | exact ⟨_, _, Row.alloc (by assumption) _⟩) | (with_reducible refine Row.other ?_ (by first | omega | (simp; omega)) _)))
            have c_v_0_11 := R_v_11.cell 0 rfl
            have c_v_1_11 := R_v_11.cell 1 rfl
            have c_v_2_11 := R_v_11.cell 2 rfl
            have c_v_3_11 := R_v_11.cell 3 rfl
            have l_v_11 := R_v_11.lt
            have R_r_11 : Row w11 (w6.heap.size) [.int .i64 (N), .int .i64 (D)] := by (repeat' (first | (with_reducible assumption) | (with_reducible refine Row.new' _ _ _ (by first | rfl | (simp; done) | omega)) | (with_reducible first | refine Row.alloc ?_ _ | refine Row.drew ?_ | refine Row.step ?_ (by assumption) | refine Row.drewN ?_ _) | (with_reducible refine Row.set2' ?_ _ _; first | exact ⟨_, _, by assumption⟩ | exact ⟨_, _, Row.alloc (by assumption) _⟩) | (with_reducible refine Row.other ?_ (by first | omega | (simp; omega)) _)))
            have c_r_0_11 := R_r_11.cell 0 rfl
            have c_r_1_11 := R_r_11.cell 1 rfl
            have l_r_11 := R_r_11.lt
            have R_e_11 : Row w11 (w.heap.size) [.int .i64 op, .int .i64 n, .slice (some ⟨b, off, none⟩) ks.length cap] := by (repeat' (first | (with_reducible assumption) | (with_reducible refine Row.new' _ _ _ (by first | rfl | (simp; done) | omega)) | (with_reducible first | refine Row.alloc ?_ _ | refine Row.drew ?_ | refine Row.step ?_ (by assumption) | refine Row.drewN ?_ _) | (with_reducible refine Row.set2' ?_ _ _; first | exact ⟨_, _, by assumption⟩ | exact ⟨_, _, Row.alloc (by assumption) _⟩) | (with_reducible refine Row.other ?_ (by first | omega | (simp; omega)) _)))
            have c_e_0_11 := R_e_11.cell 0 rfl
            have c_e_1_11 := R_e_11.cell 1 rfl
            have c_e_2_11 := R_e_11.cell 2 rfl
            have l_e_11 := R_e_11.lt
            have R_y_11 : Row w11 (Ay) [.int .i64 (ya), .int .i64 (yb)] := by (repeat' (first | (with_reducible assumption) | (with_reducible refine Row.new' _ _ _ (by first | rfl | (simp; done) | omega)) | (with_reducible first | refine Row.alloc ?_ _ | refine Row.drew ?_ | refine Row.step ?_ (by assumption) | refine Row.drewN ?_ _) | (with_reducible refine Row.set2' ?_ _ _; first | exact ⟨_, _, by assumption⟩ | exact ⟨_, _, Row.alloc (by assumption) _⟩) | (with_reducible refine Row.other ?_ (by first | omega | (simp; omega)) _)))
            have c_y_0_11 := R_y_11.cell 0 rfl
            have c_y_1_11 := R_y_11.cell 1 rfl
            have l_y_11 := R_y_11.lt
            have R_u_11 : Row w11 (w8.heap.size) [.int .i64 (1), .int .i64 (1)] := by (repeat' (first | (with_reducible assumption) | (with_reducible refine Row.new' _ _ _ (by first | rfl | (simp; done) | omega)) | (with_reducible first | refine Row.alloc ?_ _ | refine Row.drew ?_ | refine Row.step ?_ (by assumption) | refine Row.drewN ?_ _) | (with_reducible refine Row.set2' ?_ _ _; first | exact ⟨_, _, by assumption⟩ | exact ⟨_, _, Row.alloc (by assumption) _⟩) | (with_reducible refine Row.other ?_ (by first | omega | (simp; omega)) _)))
            have c_u_0_11 := R_u_11.cell 0 rfl
            have c_u_1_11 := R_u_11.cell 1 rfl
            have l_u_11 := R_u_11.lt
            have R_z_11 : Row w11 (Az) [.int .i64 (za), .int .i64 (zb)] := by (repeat' (first | (with_reducible assumption) | (with_reducible refine Row.new' _ _ _ (by first | rfl | (simp; done) | omega)) | (with_reducible first | refine Row.alloc ?_ _ | refine Row.drew ?_ | refine Row.step ?_ (by assumption) | refine Row.drewN ?_ _) | (with_reducible refine Row.set2' ?_ _ _; first | exact ⟨_, _, by assumption⟩ | exact ⟨_, _, Row.alloc (by assumption) _⟩) | (with_reducible refine Row.other ?_ (by first | omega | (simp; omega)) _)))
            have c_z_0_11 := R_z_11.cell 0 rfl
            have c_z_1_11 := R_z_11.cell 1 rfl
            have l_z_11 := R_z_11.lt
            have HB11 : Below w.heap.size w w11 := by (repeat' (first | (with_reducible first | exact Below.refl _ _ | assumption | exact Bw.out (by assumption) | refine bw_alloc ?_ _ | refine bw_step ?_ (by assumption) | refine Below.alloc ?_ ?_ _ | refine Below.drew ?_ | refine below_drewN ?_ _ | refine Below.setCell ?_ ?_ _ | refine below_step ?_ (by assumption) ?_ | exact Nat.le_refl _) | omega | (simp; omega) | (simp; done)))
            clear R_v_10 c_v_0_10 c_v_1_10 c_v_2_10 c_v_3_10 R_r_10 c_r_0_10 c_r_1_10 R_e_10 c_e_0_10 c_e_1_10 c_e_2_10 R_y_10 c_y_0_10 c_y_1_10 R_u_10 c_u_0_10 c_u_1_10 hb10 HB10
            go_wp2_with fail
            go_ret
            refine ⟨(by first | rfl | exact ret_bool (by first | rfl | (simp; done) | (simp; omega))), ?_⟩
            (repeat' (first | (with_reducible first | exact Below.refl _ _ | assumption | exact Bw.out (by assumption) | refine bw_alloc ?_ _ | refine bw_step ?_ (by assumption) | refine Below.alloc ?_ ?_ _ | refine Below.drew ?_ | refine below_drewN ?_ _ | refine Below.setCell ?_ ?_ _ | refine below_step ?_ (by assumption) ?_ | exact Nat.le_refl _) | omega | (simp; omega) | (simp; done)))
           ·
            have hze' : (ze != 0) = true := by simpa using hze
            have hx := ev_bad2 (v := var4 v0 v1 v2 v3) (x := .node op n (some ⟨b, off, none⟩) cap ks) o4 ⟨h10, h15⟩ hy.out (by rw [HyV.out]; exact HYE.out) hz.out (by rw [HzV.out]; exact hze)
            rw [HR.out, HzV.out] at hx
            simp only [Prod.mk.injEq] at hx
            obtain ⟨rfl, rfl, rfl⟩ := hx
            clear hze
            go_wp2_with fail
            go_ret
            refine ⟨(by first | rfl | exact ret_bool (by first | rfl | (simp; done) | (simp; omega))), ?_⟩
            (repeat' (first | (with_reducible first | exact Below.refl _ _ | assumption | exact Bw.out (by assumption) | refine bw_alloc ?_ _ | refine bw_step ?_ (by assumption) | refine Below.alloc ?_ ?_ _ | refine Below.drew ?_ | refine below_drewN ?_ _ | refine Below.setCell ?_ ?_ _ | refine below_step ?_ (by assumption) ?_ | exact Nat.le_refl _) | omega | (simp; omega) | (simp; done)))
       ·
        have hye' : (ye != 0) = true := by simpa using hye
        have hx := ev_bad (v := var4 v0 v1 v2 v3) (x := .node op n (some ⟨b, off, none⟩) cap ks) o4 hy.out (by rw [HyV.out]; exact hye)
        rw [HR.out, HyV.out] at hx
        simp only [Prod.mk.injEq] at hx
        obtain ⟨rfl, rfl, rfl⟩ := hx
        clear hye
        go_wp2_with fail
        go_ret
        refine ⟨(by first | rfl | exact ret_bool (by first | rfl | (simp; done) | (simp; omega))), ?_⟩
        (repeat' (first | (with_reducible first | exact Below.refl _ _ | assumption | exact Bw.out (by assumption) | refine bw_alloc ?_ _ | refine bw_step ?_ (by assumption) | refine Below.alloc ?_ ?_ _ | refine Below.drew ?_ | refine below_drewN ?_ _ | refine Below.setCell ?_ ?_ _ | refine below_step ?_ (by assumption) ?_ | exact Nat.le_refl _) | omega | (simp; omega) | (simp; done)))
theorem values_walk (x : Ex) (v0 v1 v2 v3 : Int) (_ : x.Wf) (_ : I64 v0 ∧ I64 v1 ∧ I64 v2 ∧ I64 v3) (w : World) (hx : x.In w) :
  Calls Tryz.prog 4 #[x.val, .agg #[.int .i64 v0, .int .i64 v1, .int .i64 v2, .int .i64 v3]] w fun e w' => e = .returned (.bool true) ∧ Below w.heap.size w w' := by
 obtain ⟨op, n, ad, cap, ks⟩ := x
 exact values_walk0 op n ad cap ks v0 v1 v2 v3 w hx
set_option maxRecDepth 100000 in
theorem rateValues_lifted (os : Os) (started : os.Started) (H : Type) (enc : TypeId × Value → H) :
  ReturnsInHanded {} Tryz.checked os 4 .any (Rows.rateValuesSpec.pre6 enc Tryz.prog Tryz.f4 Rows.rateValuesRow.domain false) (Rows.rateValuesSpec.post enc Tryz.prog Tryz.f4 false true false false) := by
 refine returnsInHanded_of_change (C := Tryz.checked) own started (by kernel_rfl) Tryz.func4
  (ChangeSpec.witness6 (enc := enc) (C := Tryz.checked) false ⟨#[], #[.agg #[.int .i64 0, .int .i64 0, .slice none 0 0], .agg #[.int .i64 0, .int .i64 0, .int .i64 0, .int .i64 0]], []⟩ 8 (by kernel_rfl) (by kernel_rfl) (by kernel_rfl) (by kernel_rfl)) ?_
 intro W base args ds gs before hval0 hW _ _
 have hval : ∀ (j : Nat) t v, Tryz.f4.params[j]? = some t → args[j]? = some v → Value.okWide Tryz.prog W .any base t v := hval0
 have hW' := hW
 obtain ⟨p, q, hA0, hV, rfl, hfz, hnd⟩ := hW
 obtain ⟨rfl, rfl⟩ := trodVars_none hV
 have hA : DataW.TrodAll enc Tryz.prog W 0 (fun _ => true) true Tryz.f4.params.toList args.toList ds p := hA0
 rw [Tryz.params4] at hA hval
 obtain ⟨v0, vs0, d0, ds0, p0, q0, hargs, rfl, rfl, h0, r0⟩ := trodAll_cons hA
 obtain ⟨v1, vs1, d1, ds1, p1, q1, rfl, rfl, rfl, h1, r1⟩ := trodAll_cons r0
 obtain ⟨rfl, rfl, rfl⟩ := trodAll_nil r1
 obtain rfl : args = #[v0, v1] := by cases args; simp_all
 obtain ⟨x, rfl, hs_x, wf_x⟩ := expr_arg (hval 0 24 v0 rfl rfl) h0
 obtain ⟨a1_v, a2_v, a3_v, a4_v, rfl, wf_v⟩ := vars_arg (hval 1 25 v1 rfl rfl) h1
 clear hA0 hval0
 refine (values_walk x a1_v a2_v a3_v a4_v wf_x wf_v W hs_x).mono fun e W' ⟨he, hb⟩ => ?_
 subst he
 exact ⟨_, rfl, law_post (B := 4) laidOut (by rw [Tryz.params4]; simp only [List.mem_cons, List.not_mem_nil, or_false, forall_eq_or_imp, forall_eq]; first | exact readable_rateValues | (repeat' apply And.intro) <;> first | exact of_decide_eq_true (by kernel_rfl) | kernel_rfl) rfl Tryz.underlying4 rfl rfl hW' hb⟩
theorem rateValues_over : Rows.rateValuesRow.holds Tryz.pinned (OpenSpec.ofChange Rows.rateValuesSpec) :=
 OpenClaim.holds_of_wide 4 Tryz.f4 rfl rfl rfl rfl rfl rfl rfl ⟨rfl, rfl, rfl, rfl, rfl⟩ rfl rfl rfl rfl rfl (by kernel_rfl) Tryz.func4 (by kernel_rfl)
  (of_decide_eq_true (by kernel_rfl)) (by unfold Func.isWrapper; first | (rw [if_pos (by decide +kernel)]; kernel_rfl) | (rw [if_neg (by decide +kernel)]; exact ⟨rfl, rfl⟩))
  (fun os started H enc _ => rateValues_lifted os started H enc)
theorem rateValues_holds : Rows.RateValuesSaid := rateValues_over
#print axioms rateValues_holds
end Go.Proofs.YtcmodmchnokmgaaGreat
