/-
  RatioSums: the order of a sum plays no part; what is added and subtracted again leaves the ratio as it was; three ratios can be added from either side, as long as all these results exist.
  No condition: for every input.
-/
import Derived.Test.YtmndiejojlmblaaRatS
import Derived.Test.YtmndiejojlmblaaLaw
namespace Go.Proofs.Ytmndiejojlmblaa
set_option linter.unusedSimpArgs false
set_option linter.unusedVariables false
open Go.ChangeShapes Go.WideShapes Go.ChangeAt Go.RowKit

attribute [local go_sem ↓] eql_rat neq_rat


set_option maxRecDepth 100000 in
set_option maxHeartbeats 4000000 in
theorem sums_walk (a0 a1 b0 b1 c0 c1 : Int) (_ : (Lit.int .i64 a0).wf = true) (_ : (Lit.int .i64 a1).wf = true) (_ : (Lit.int .i64 b0).wf = true) (_ : (Lit.int .i64 b1).wf = true) (_ : (Lit.int .i64 c0).wf = true) (_ : (Lit.int .i64 c1).wf = true) (w : World) :
    Calls Try.prog 7 #[.agg #[.int .i64 a0, .int .i64 a1], .agg #[.int .i64 b0, .int .i64 b1], .agg #[.int .i64 c0, .int .i64 c1]] w fun e w' => e = .returned (.bool true) ∧ Below w.heap.size w w' := by
  by_cases va : vldP a0 a1
  · have ea := vld_true va
    by_cases vb : vldP b0 b1
    · have eb := vld_true vb
      have e1 : b0 * a1 + a0 * b1 = a0 * b1 + b0 * a1 := Int.add_comm _ _
      have e2 : b1 * a1 = a1 * b1 := Int.mul_comm _ _
      have k1 : fitN (b0 * a1 + a0 * b1) (b1 * a1) = fitN (a0 * b1 + b0 * a1) (a1 * b1) := by rw [e1, e2]
      have k2 : fitD (b0 * a1 + a0 * b1) (b1 * a1) = fitD (a0 * b1 + b0 * a1) (a1 * b1) := by rw [e1, e2]
      have k3 : fitE (b0 * a1 + a0 * b1) (b1 * a1) = fitE (a0 * b1 + b0 * a1) (a1 * b1) := by rw [e1, e2]
      clear e1 e2
      have hd : 0 < a1 * b1 := Int.mul_pos (by have := va.1; omega) (by have := vb.1; omega)
      rcases fitE_or (a0 * b1 + b0 * a1) (a1 * b1) with f | f
      · obtain ⟨vx, hx, hxd⟩ := fit_ok hd f
        obtain ⟨g1, g2, g3⟩ := fit_cross (n := fitN (a0 * b1 + b0 * a1) (a1 * b1) * b1 - b0 * fitD (a0 * b1 + b0 * a1) (a1 * b1)) (d := fitD (a0 * b1 + b0 * a1) (a1 * b1) * b1)
          (Int.mul_pos hxd (by have := vb.1; omega)) (by have := va.1; omega) va (back_again (by have := va.1; omega) (by have := vb.1; omega) hx)
        have HX := Lib.hid hx
        clear hx
        by_cases vc : vldP c0 c1
        · have ec := vld_true vc
          have o1 := opE_ok (n := fitN (a0 * b1 + b0 * a1) (a1 * b1) * c1 + c0 * fitD (a0 * b1 + b0 * a1) (a1 * b1)) (m := fitD (a0 * b1 + b0 * a1) (a1 * b1) * c1) vx vc
          have o2 := opE_ok (n := b0 * c1 + c0 * b1) (m := b1 * c1) vb vc
          rcases fitE_or (fitN (a0 * b1 + b0 * a1) (a1 * b1) * c1 + c0 * fitD (a0 * b1 + b0 * a1) (a1 * b1)) (fitD (a0 * b1 + b0 * a1) (a1 * b1) * c1) with f2 | f2
          · rw [f2] at o1
            rcases fitE_or (b0 * c1 + c0 * b1) (b1 * c1) with f3 | f3
            · rw [f3] at o2
              obtain ⟨vz, hz, hzd⟩ := fit_ok (Int.mul_pos (by have := vb.1; omega) (by have := vc.1; omega)) f3
              have hs := assoc (by have := va.1; omega) (by have := vb.1; omega) (by have := vc.1; omega) HX.out hz
              have o3 := opN_ok (n := b0 * c1 + c0 * b1) (m := b1 * c1) vb vc
              have o4 := opD_ok (n := b0 * c1 + c0 * b1) (m := b1 * c1) vb vc
              have o5 := opN_ok (n := fitN (a0 * b1 + b0 * a1) (a1 * b1) * c1 + c0 * fitD (a0 * b1 + b0 * a1) (a1 * b1)) (m := fitD (a0 * b1 + b0 * a1) (a1 * b1) * c1) vx vc
              have o6 := opD_ok (n := fitN (a0 * b1 + b0 * a1) (a1 * b1) * c1 + c0 * fitD (a0 * b1 + b0 * a1) (a1 * b1)) (m := fitD (a0 * b1 + b0 * a1) (a1 * b1) * c1) vx vc
              obtain ⟨s1, s2, s3⟩ := fit_same (n' := fitN (a0 * b1 + b0 * a1) (a1 * b1) * c1 + c0 * fitD (a0 * b1 + b0 * a1) (a1 * b1)) (d' := fitD (a0 * b1 + b0 * a1) (a1 * b1) * c1) (n := a0 * fitD (b0 * c1 + c0 * b1) (b1 * c1) + fitN (b0 * c1 + c0 * b1) (b1 * c1) * a1) (d := a1 * fitD (b0 * c1 + c0 * b1) (b1 * c1))
                (Int.mul_pos (by have := va.1; omega) hzd) (Int.mul_pos hxd (by have := vc.1; omega)) hs.symm
              have o7 := (opE_ok (n := a0 * fitD (b0 * c1 + c0 * b1) (b1 * c1) + fitN (b0 * c1 + c0 * b1) (b1 * c1) * a1) (m := a1 * fitD (b0 * c1 + c0 * b1) (b1 * c1)) va vz).trans (s3.trans f2)
              have o8 := (opN_ok (n := a0 * fitD (b0 * c1 + c0 * b1) (b1 * c1) + fitN (b0 * c1 + c0 * b1) (b1 * c1) * a1) (m := a1 * fitD (b0 * c1 + c0 * b1) (b1 * c1)) va vz).trans s1
              have o9 := (opD_ok (n := a0 * fitD (b0 * c1 + c0 * b1) (b1 * c1) + fitN (b0 * c1 + c0 * b1) (b1 * c1) * a1) (m := a1 * fitD (b0 * c1 + c0 * b1) (b1 * c1)) va vz).trans s2
              clear hz hs s1 s2 s3 f2 f3
              go_enter Try.func7, Try.ntmps7
              go_wp2_with fail
              refine (head_any _).mono ?_
              rintro e w1 ⟨rfl, hb1⟩
              have Ra1 : Row w1 w.heap.size [.int .i64 a0, .int .i64 a1] := by (repeat' (first | (with_reducible assumption) | (with_reducible refine Row.new' _ _ _ (by first | rfl | (simp; done) | omega)) | (with_reducible refine Row.alloc ?_ _) | (with_reducible refine Row.drew ?_) | (with_reducible refine Row.drewN ?_ _) | (with_reducible refine Row.step ?_ (by with_reducible assumption))))
              have Rb1 : Row w1 (w.heap.size + 1) [.int .i64 b0, .int .i64 b1] := by (repeat' (first | (with_reducible assumption) | (with_reducible refine Row.new' _ _ _ (by first | rfl | (simp; done) | omega)) | (with_reducible refine Row.alloc ?_ _) | (with_reducible refine Row.drew ?_) | (with_reducible refine Row.drewN ?_ _) | (with_reducible refine Row.step ?_ (by with_reducible assumption))))
              have Rc1 : Row w1 (w.heap.size + 1 + 1) [.int .i64 c0, .int .i64 c1] := by (repeat' (first | (with_reducible assumption) | (with_reducible refine Row.new' _ _ _ (by first | rfl | (simp; done) | omega)) | (with_reducible refine Row.alloc ?_ _) | (with_reducible refine Row.drew ?_) | (with_reducible refine Row.drewN ?_ _) | (with_reducible refine Row.step ?_ (by with_reducible assumption))))
              have ca01 := Ra1.cell 0 rfl
              have ca11 := Ra1.cell 1 rfl
              have cb01 := Rb1.cell 0 rfl
              have cb11 := Rb1.cell 1 rfl
              have cc01 := Rc1.cell 0 rfl
              have cc11 := Rc1.cell 1 rfl
              have la1 := Ra1.lt
              have lb1 := Rb1.lt
              have lc1 := Rc1.lt
              go_wp2_with fail
              refine (Add_v _ _ _ _ _ va vb).mono ?_
              rintro e w2 ⟨rfl, hb2⟩
              have Ra2 : Row w2 w.heap.size [.int .i64 a0, .int .i64 a1] := by (repeat' (first | (with_reducible assumption) | (with_reducible refine Row.new' _ _ _ (by first | rfl | (simp; done) | omega)) | (with_reducible refine Row.alloc ?_ _) | (with_reducible refine Row.drew ?_) | (with_reducible refine Row.drewN ?_ _) | (with_reducible refine Row.step ?_ (by with_reducible assumption))))
              have Rb2 : Row w2 (w.heap.size + 1) [.int .i64 b0, .int .i64 b1] := by (repeat' (first | (with_reducible assumption) | (with_reducible refine Row.new' _ _ _ (by first | rfl | (simp; done) | omega)) | (with_reducible refine Row.alloc ?_ _) | (with_reducible refine Row.drew ?_) | (with_reducible refine Row.drewN ?_ _) | (with_reducible refine Row.step ?_ (by with_reducible assumption))))
              have Rc2 : Row w2 (w.heap.size + 1 + 1) [.int .i64 c0, .int .i64 c1] := by (repeat' (first | (with_reducible assumption) | (with_reducible refine Row.new' _ _ _ (by first | rfl | (simp; done) | omega)) | (with_reducible refine Row.alloc ?_ _) | (with_reducible refine Row.drew ?_) | (with_reducible refine Row.drewN ?_ _) | (with_reducible refine Row.step ?_ (by with_reducible assumption))))
              have ca02 := Ra2.cell 0 rfl
              have ca12 := Ra2.cell 1 rfl
              have cb02 := Rb2.cell 0 rfl
              have cb12 := Rb2.cell 1 rfl
              have cc02 := Rc2.cell 0 rfl
              have cc12 := Rc2.cell 1 rfl
              have la2 := Ra2.lt
              have lb2 := Rb2.lt
              have lc2 := Rc2.lt
              go_wp2_with fail
              refine (Add_v _ _ _ _ _ vb va).mono ?_
              rintro e w3 ⟨rfl, hb3⟩
              have Ra3 : Row w3 w.heap.size [.int .i64 a0, .int .i64 a1] := by (repeat' (first | (with_reducible assumption) | (with_reducible refine Row.new' _ _ _ (by first | rfl | (simp; done) | omega)) | (with_reducible refine Row.alloc ?_ _) | (with_reducible refine Row.drew ?_) | (with_reducible refine Row.drewN ?_ _) | (with_reducible refine Row.step ?_ (by with_reducible assumption))))
              have Rb3 : Row w3 (w.heap.size + 1) [.int .i64 b0, .int .i64 b1] := by (repeat' (first | (with_reducible assumption) | (with_reducible refine Row.new' _ _ _ (by first | rfl | (simp; done) | omega)) | (with_reducible refine Row.alloc ?_ _) | (with_reducible refine Row.drew ?_) | (with_reducible refine Row.drewN ?_ _) | (with_reducible refine Row.step ?_ (by with_reducible assumption))))
              have Rc3 : Row w3 (w.heap.size + 1 + 1) [.int .i64 c0, .int .i64 c1] := by (repeat' (first | (with_reducible assumption) | (with_reducible refine Row.new' _ _ _ (by first | rfl | (simp; done) | omega)) | (with_reducible refine Row.alloc ?_ _) | (with_reducible refine Row.drew ?_) | (with_reducible refine Row.drewN ?_ _) | (with_reducible refine Row.step ?_ (by with_reducible assumption))))
              have ca03 := Ra3.cell 0 rfl
              have ca13 := Ra3.cell 1 rfl
              have cb03 := Rb3.cell 0 rfl
              have cb13 := Rb3.cell 1 rfl
              have cc03 := Rc3.cell 0 rfl
              have cc13 := Rc3.cell 1 rfl
              have la3 := Ra3.lt
              have lb3 := Rb3.lt
              have lc3 := Rc3.lt
              have Rx3 : Row w3 w2.heap.size [.int .i64 (fitN (a0 * b1 + b0 * a1) (a1 * b1)), .int .i64 (fitD (a0 * b1 + b0 * a1) (a1 * b1))] := by (repeat' (first | (with_reducible assumption) | (with_reducible refine Row.new' _ _ _ (by first | rfl | (simp; done) | omega)) | (with_reducible refine Row.alloc ?_ _) | (with_reducible refine Row.drew ?_) | (with_reducible refine Row.drewN ?_ _) | (with_reducible refine Row.step ?_ (by with_reducible assumption))))
              have cx03 := Rx3.cell 0 rfl
              have cx13 := Rx3.cell 1 rfl
              have lx3 := Rx3.lt
              go_wp2_with fail
              refine (Sub_v _ _ _ _ _ vx vb).mono ?_
              rintro e w4 ⟨rfl, hb4⟩
              have Ra4 : Row w4 w.heap.size [.int .i64 a0, .int .i64 a1] := by (repeat' (first | (with_reducible assumption) | (with_reducible refine Row.new' _ _ _ (by first | rfl | (simp; done) | omega)) | (with_reducible refine Row.alloc ?_ _) | (with_reducible refine Row.drew ?_) | (with_reducible refine Row.drewN ?_ _) | (with_reducible refine Row.step ?_ (by with_reducible assumption))))
              have Rb4 : Row w4 (w.heap.size + 1) [.int .i64 b0, .int .i64 b1] := by (repeat' (first | (with_reducible assumption) | (with_reducible refine Row.new' _ _ _ (by first | rfl | (simp; done) | omega)) | (with_reducible refine Row.alloc ?_ _) | (with_reducible refine Row.drew ?_) | (with_reducible refine Row.drewN ?_ _) | (with_reducible refine Row.step ?_ (by with_reducible assumption))))
              have Rc4 : Row w4 (w.heap.size + 1 + 1) [.int .i64 c0, .int .i64 c1] := by (repeat' (first | (with_reducible assumption) | (with_reducible refine Row.new' _ _ _ (by first | rfl | (simp; done) | omega)) | (with_reducible refine Row.alloc ?_ _) | (with_reducible refine Row.drew ?_) | (with_reducible refine Row.drewN ?_ _) | (with_reducible refine Row.step ?_ (by with_reducible assumption))))
              have ca04 := Ra4.cell 0 rfl
              have ca14 := Ra4.cell 1 rfl
              have cb04 := Rb4.cell 0 rfl
              have cb14 := Rb4.cell 1 rfl
              have cc04 := Rc4.cell 0 rfl
              have cc14 := Rc4.cell 1 rfl
              have la4 := Ra4.lt
              have lb4 := Rb4.lt
              have lc4 := Rc4.lt
              have Rx4 : Row w4 w2.heap.size [.int .i64 (fitN (a0 * b1 + b0 * a1) (a1 * b1)), .int .i64 (fitD (a0 * b1 + b0 * a1) (a1 * b1))] := by (repeat' (first | (with_reducible assumption) | (with_reducible refine Row.new' _ _ _ (by first | rfl | (simp; done) | omega)) | (with_reducible refine Row.alloc ?_ _) | (with_reducible refine Row.drew ?_) | (with_reducible refine Row.drewN ?_ _) | (with_reducible refine Row.step ?_ (by with_reducible assumption))))
              have cx04 := Rx4.cell 0 rfl
              have cx14 := Rx4.cell 1 rfl
              have lx4 := Rx4.lt
              go_wp2_with fail
              refine (Add_any _ _ _ _ _).mono ?_
              rintro e w5 ⟨rfl, hb5⟩
              have Ra5 : Row w5 w.heap.size [.int .i64 a0, .int .i64 a1] := by (repeat' (first | (with_reducible assumption) | (with_reducible refine Row.new' _ _ _ (by first | rfl | (simp; done) | omega)) | (with_reducible refine Row.alloc ?_ _) | (with_reducible refine Row.drew ?_) | (with_reducible refine Row.drewN ?_ _) | (with_reducible refine Row.step ?_ (by with_reducible assumption))))
              have Rb5 : Row w5 (w.heap.size + 1) [.int .i64 b0, .int .i64 b1] := by (repeat' (first | (with_reducible assumption) | (with_reducible refine Row.new' _ _ _ (by first | rfl | (simp; done) | omega)) | (with_reducible refine Row.alloc ?_ _) | (with_reducible refine Row.drew ?_) | (with_reducible refine Row.drewN ?_ _) | (with_reducible refine Row.step ?_ (by with_reducible assumption))))
              have Rc5 : Row w5 (w.heap.size + 1 + 1) [.int .i64 c0, .int .i64 c1] := by (repeat' (first | (with_reducible assumption) | (with_reducible refine Row.new' _ _ _ (by first | rfl | (simp; done) | omega)) | (with_reducible refine Row.alloc ?_ _) | (with_reducible refine Row.drew ?_) | (with_reducible refine Row.drewN ?_ _) | (with_reducible refine Row.step ?_ (by with_reducible assumption))))
              have ca05 := Ra5.cell 0 rfl
              have ca15 := Ra5.cell 1 rfl
              have cb05 := Rb5.cell 0 rfl
              have cb15 := Rb5.cell 1 rfl
              have cc05 := Rc5.cell 0 rfl
              have cc15 := Rc5.cell 1 rfl
              have la5 := Ra5.lt
              have lb5 := Rb5.lt
              have lc5 := Rc5.lt
              go_wp2_with fail
              refine (Add_any _ _ _ _ _).mono ?_
              rintro e w6 ⟨rfl, hb6⟩
              have Ra6 : Row w6 w.heap.size [.int .i64 a0, .int .i64 a1] := by (repeat' (first | (with_reducible assumption) | (with_reducible refine Row.new' _ _ _ (by first | rfl | (simp; done) | omega)) | (with_reducible refine Row.alloc ?_ _) | (with_reducible refine Row.drew ?_) | (with_reducible refine Row.drewN ?_ _) | (with_reducible refine Row.step ?_ (by with_reducible assumption))))
              have Rb6 : Row w6 (w.heap.size + 1) [.int .i64 b0, .int .i64 b1] := by (repeat' (first | (with_reducible assumption) | (with_reducible refine Row.new' _ _ _ (by first | rfl | (simp; done) | omega)) | (with_reducible refine Row.alloc ?_ _) | (with_reducible refine Row.drew ?_) | (with_reducible refine Row.drewN ?_ _) | (with_reducible refine Row.step ?_ (by with_reducible assumption))))
              have Rc6 : Row w6 (w.heap.size + 1 + 1) [.int .i64 c0, .int .i64 c1] := by (repeat' (first | (with_reducible assumption) | (with_reducible refine Row.new' _ _ _ (by first | rfl | (simp; done) | omega)) | (with_reducible refine Row.alloc ?_ _) | (with_reducible refine Row.drew ?_) | (with_reducible refine Row.drewN ?_ _) | (with_reducible refine Row.step ?_ (by with_reducible assumption))))
              have ca06 := Ra6.cell 0 rfl
              have ca16 := Ra6.cell 1 rfl
              have cb06 := Rb6.cell 0 rfl
              have cb16 := Rb6.cell 1 rfl
              have cc06 := Rc6.cell 0 rfl
              have cc16 := Rc6.cell 1 rfl
              have la6 := Ra6.lt
              have lb6 := Rb6.lt
              have lc6 := Rc6.lt
              go_wp2_with fail
              refine (Add_any _ _ _ _ _).mono ?_
              rintro e w7 ⟨rfl, hb7⟩
              have Ra7 : Row w7 w.heap.size [.int .i64 a0, .int .i64 a1] := by (repeat' (first | (with_reducible assumption) | (with_reducible refine Row.new' _ _ _ (by first | rfl | (simp; done) | omega)) | (with_reducible refine Row.alloc ?_ _) | (with_reducible refine Row.drew ?_) | (with_reducible refine Row.drewN ?_ _) | (with_reducible refine Row.step ?_ (by with_reducible assumption))))
              have Rb7 : Row w7 (w.heap.size + 1) [.int .i64 b0, .int .i64 b1] := by (repeat' (first | (with_reducible assumption) | (with_reducible refine Row.new' _ _ _ (by first | rfl | (simp; done) | omega)) | (with_reducible refine Row.alloc ?_ _) | (with_reducible refine Row.drew ?_) | (with_reducible refine Row.drewN ?_ _) | (with_reducible refine Row.step ?_ (by with_reducible assumption))))
              have Rc7 : Row w7 (w.heap.size + 1 + 1) [.int .i64 c0, .int .i64 c1] := by (repeat' (first | (with_reducible assumption) | (with_reducible refine Row.new' _ _ _ (by first | rfl | (simp; done) | omega)) | (with_reducible refine Row.alloc ?_ _) | (with_reducible refine Row.drew ?_) | (with_reducible refine Row.drewN ?_ _) | (with_reducible refine Row.step ?_ (by with_reducible assumption))))
              have ca07 := Ra7.cell 0 rfl
              have ca17 := Ra7.cell 1 rfl
              have cb07 := Rb7.cell 0 rfl
              have cb17 := Rb7.cell 1 rfl
              have cc07 := Rc7.cell 0 rfl
              have cc17 := Rc7.cell 1 rfl
              have la7 := Ra7.lt
              have lb7 := Rb7.lt
              have lc7 := Rc7.lt
              have Rk7 : Row w7 w4.heap.size [.int .i64 (a0), .int .i64 (a1)] := by (repeat' (first | (with_reducible assumption) | (with_reducible refine Row.new' _ _ _ (by first | rfl | (simp; done) | omega)) | (with_reducible refine Row.alloc ?_ _) | (with_reducible refine Row.drew ?_) | (with_reducible refine Row.drewN ?_ _) | (with_reducible refine Row.step ?_ (by with_reducible assumption))))
              have ck07 := Rk7.cell 0 rfl
              have ck17 := Rk7.cell 1 rfl
              have lk7 := Rk7.lt
              have Rl7 : Row w7 w5.heap.size [.int .i64 (fitN (fitN (a0 * b1 + b0 * a1) (a1 * b1) * c1 + c0 * fitD (a0 * b1 + b0 * a1) (a1 * b1)) (fitD (a0 * b1 + b0 * a1) (a1 * b1) * c1)), .int .i64 (fitD (fitN (a0 * b1 + b0 * a1) (a1 * b1) * c1 + c0 * fitD (a0 * b1 + b0 * a1) (a1 * b1)) (fitD (a0 * b1 + b0 * a1) (a1 * b1) * c1))] := by (repeat' (first | (with_reducible assumption) | (with_reducible refine Row.new' _ _ _ (by first | rfl | (simp; done) | omega)) | (with_reducible refine Row.alloc ?_ _) | (with_reducible refine Row.drew ?_) | (with_reducible refine Row.drewN ?_ _) | (with_reducible refine Row.step ?_ (by with_reducible assumption))))
              have cl07 := Rl7.cell 0 rfl
              have cl17 := Rl7.cell 1 rfl
              have ll7 := Rl7.lt
              go_wp2_with fail
              go_ret
              refine ⟨rfl, ?_⟩
              (repeat' (first | (with_reducible exact Below.refl _ _) | (with_reducible assumption) | (with_reducible exact Bw.out (by with_reducible assumption)) | (with_reducible refine bw_alloc ?_ _) | (with_reducible refine bw_step ?_ (by with_reducible assumption)) | (with_reducible refine Below.alloc ?_ ?_ _) | (with_reducible refine Below.drew ?_) | (with_reducible refine below_drewN ?_ _) | (with_reducible refine Below.setCell ?_ ?_ _) | (with_reducible refine below_step ?_ (by with_reducible assumption) ?_) | (with_reducible exact Nat.le_refl _) | omega | (simp; omega) | (simp; done)))
            · rw [f3] at o2
              clear f2 f3
              go_enter Try.func7, Try.ntmps7
              go_wp2_with fail
              refine (head_any _).mono ?_
              rintro e w1 ⟨rfl, hb1⟩
              have Ra1 : Row w1 w.heap.size [.int .i64 a0, .int .i64 a1] := by (repeat' (first | (with_reducible assumption) | (with_reducible refine Row.new' _ _ _ (by first | rfl | (simp; done) | omega)) | (with_reducible refine Row.alloc ?_ _) | (with_reducible refine Row.drew ?_) | (with_reducible refine Row.drewN ?_ _) | (with_reducible refine Row.step ?_ (by with_reducible assumption))))
              have Rb1 : Row w1 (w.heap.size + 1) [.int .i64 b0, .int .i64 b1] := by (repeat' (first | (with_reducible assumption) | (with_reducible refine Row.new' _ _ _ (by first | rfl | (simp; done) | omega)) | (with_reducible refine Row.alloc ?_ _) | (with_reducible refine Row.drew ?_) | (with_reducible refine Row.drewN ?_ _) | (with_reducible refine Row.step ?_ (by with_reducible assumption))))
              have Rc1 : Row w1 (w.heap.size + 1 + 1) [.int .i64 c0, .int .i64 c1] := by (repeat' (first | (with_reducible assumption) | (with_reducible refine Row.new' _ _ _ (by first | rfl | (simp; done) | omega)) | (with_reducible refine Row.alloc ?_ _) | (with_reducible refine Row.drew ?_) | (with_reducible refine Row.drewN ?_ _) | (with_reducible refine Row.step ?_ (by with_reducible assumption))))
              have ca01 := Ra1.cell 0 rfl
              have ca11 := Ra1.cell 1 rfl
              have cb01 := Rb1.cell 0 rfl
              have cb11 := Rb1.cell 1 rfl
              have cc01 := Rc1.cell 0 rfl
              have cc11 := Rc1.cell 1 rfl
              have la1 := Ra1.lt
              have lb1 := Rb1.lt
              have lc1 := Rc1.lt
              go_wp2_with fail
              refine (Add_v _ _ _ _ _ va vb).mono ?_
              rintro e w2 ⟨rfl, hb2⟩
              have Ra2 : Row w2 w.heap.size [.int .i64 a0, .int .i64 a1] := by (repeat' (first | (with_reducible assumption) | (with_reducible refine Row.new' _ _ _ (by first | rfl | (simp; done) | omega)) | (with_reducible refine Row.alloc ?_ _) | (with_reducible refine Row.drew ?_) | (with_reducible refine Row.drewN ?_ _) | (with_reducible refine Row.step ?_ (by with_reducible assumption))))
              have Rb2 : Row w2 (w.heap.size + 1) [.int .i64 b0, .int .i64 b1] := by (repeat' (first | (with_reducible assumption) | (with_reducible refine Row.new' _ _ _ (by first | rfl | (simp; done) | omega)) | (with_reducible refine Row.alloc ?_ _) | (with_reducible refine Row.drew ?_) | (with_reducible refine Row.drewN ?_ _) | (with_reducible refine Row.step ?_ (by with_reducible assumption))))
              have Rc2 : Row w2 (w.heap.size + 1 + 1) [.int .i64 c0, .int .i64 c1] := by (repeat' (first | (with_reducible assumption) | (with_reducible refine Row.new' _ _ _ (by first | rfl | (simp; done) | omega)) | (with_reducible refine Row.alloc ?_ _) | (with_reducible refine Row.drew ?_) | (with_reducible refine Row.drewN ?_ _) | (with_reducible refine Row.step ?_ (by with_reducible assumption))))
              have ca02 := Ra2.cell 0 rfl
              have ca12 := Ra2.cell 1 rfl
              have cb02 := Rb2.cell 0 rfl
              have cb12 := Rb2.cell 1 rfl
              have cc02 := Rc2.cell 0 rfl
              have cc12 := Rc2.cell 1 rfl
              have la2 := Ra2.lt
              have lb2 := Rb2.lt
              have lc2 := Rc2.lt
              go_wp2_with fail
              refine (Add_v _ _ _ _ _ vb va).mono ?_
              rintro e w3 ⟨rfl, hb3⟩
              have Ra3 : Row w3 w.heap.size [.int .i64 a0, .int .i64 a1] := by (repeat' (first | (with_reducible assumption) | (with_reducible refine Row.new' _ _ _ (by first | rfl | (simp; done) | omega)) | (with_reducible refine Row.alloc ?_ _) | (with_reducible refine Row.drew ?_) | (with_reducible refine Row.drewN ?_ _) | (with_reducible refine Row.step ?_ (by with_reducible assumption))))
              have Rb3 : Row w3 (w.heap.size + 1) [.int .i64 b0, .int .i64 b1] := by (repeat' (first | (with_reducible assumption) | (with_reducible refine Row.new' _ _ _ (by first | rfl | (simp; done) | omega)) | (with_reducible refine Row.alloc ?_ _) | (with_reducible refine Row.drew ?_) | (with_reducible refine Row.drewN ?_ _) | (with_reducible refine Row.step ?_ (by with_reducible assumption))))
              have Rc3 : Row w3 (w.heap.size + 1 + 1) [.int .i64 c0, .int .i64 c1] := by (repeat' (first | (with_reducible assumption) | (with_reducible refine Row.new' _ _ _ (by first | rfl | (simp; done) | omega)) | (with_reducible refine Row.alloc ?_ _) | (with_reducible refine Row.drew ?_) | (with_reducible refine Row.drewN ?_ _) | (with_reducible refine Row.step ?_ (by with_reducible assumption))))
              have ca03 := Ra3.cell 0 rfl
              have ca13 := Ra3.cell 1 rfl
              have cb03 := Rb3.cell 0 rfl
              have cb13 := Rb3.cell 1 rfl
              have cc03 := Rc3.cell 0 rfl
              have cc13 := Rc3.cell 1 rfl
              have la3 := Ra3.lt
              have lb3 := Rb3.lt
              have lc3 := Rc3.lt
              have Rx3 : Row w3 w2.heap.size [.int .i64 (fitN (a0 * b1 + b0 * a1) (a1 * b1)), .int .i64 (fitD (a0 * b1 + b0 * a1) (a1 * b1))] := by (repeat' (first | (with_reducible assumption) | (with_reducible refine Row.new' _ _ _ (by first | rfl | (simp; done) | omega)) | (with_reducible refine Row.alloc ?_ _) | (with_reducible refine Row.drew ?_) | (with_reducible refine Row.drewN ?_ _) | (with_reducible refine Row.step ?_ (by with_reducible assumption))))
              have cx03 := Rx3.cell 0 rfl
              have cx13 := Rx3.cell 1 rfl
              have lx3 := Rx3.lt
              go_wp2_with fail
              refine (Sub_v _ _ _ _ _ vx vb).mono ?_
              rintro e w4 ⟨rfl, hb4⟩
              have Ra4 : Row w4 w.heap.size [.int .i64 a0, .int .i64 a1] := by (repeat' (first | (with_reducible assumption) | (with_reducible refine Row.new' _ _ _ (by first | rfl | (simp; done) | omega)) | (with_reducible refine Row.alloc ?_ _) | (with_reducible refine Row.drew ?_) | (with_reducible refine Row.drewN ?_ _) | (with_reducible refine Row.step ?_ (by with_reducible assumption))))
              have Rb4 : Row w4 (w.heap.size + 1) [.int .i64 b0, .int .i64 b1] := by (repeat' (first | (with_reducible assumption) | (with_reducible refine Row.new' _ _ _ (by first | rfl | (simp; done) | omega)) | (with_reducible refine Row.alloc ?_ _) | (with_reducible refine Row.drew ?_) | (with_reducible refine Row.drewN ?_ _) | (with_reducible refine Row.step ?_ (by with_reducible assumption))))
              have Rc4 : Row w4 (w.heap.size + 1 + 1) [.int .i64 c0, .int .i64 c1] := by (repeat' (first | (with_reducible assumption) | (with_reducible refine Row.new' _ _ _ (by first | rfl | (simp; done) | omega)) | (with_reducible refine Row.alloc ?_ _) | (with_reducible refine Row.drew ?_) | (with_reducible refine Row.drewN ?_ _) | (with_reducible refine Row.step ?_ (by with_reducible assumption))))
              have ca04 := Ra4.cell 0 rfl
              have ca14 := Ra4.cell 1 rfl
              have cb04 := Rb4.cell 0 rfl
              have cb14 := Rb4.cell 1 rfl
              have cc04 := Rc4.cell 0 rfl
              have cc14 := Rc4.cell 1 rfl
              have la4 := Ra4.lt
              have lb4 := Rb4.lt
              have lc4 := Rc4.lt
              have Rx4 : Row w4 w2.heap.size [.int .i64 (fitN (a0 * b1 + b0 * a1) (a1 * b1)), .int .i64 (fitD (a0 * b1 + b0 * a1) (a1 * b1))] := by (repeat' (first | (with_reducible assumption) | (with_reducible refine Row.new' _ _ _ (by first | rfl | (simp; done) | omega)) | (with_reducible refine Row.alloc ?_ _) | (with_reducible refine Row.drew ?_) | (with_reducible refine Row.drewN ?_ _) | (with_reducible refine Row.step ?_ (by with_reducible assumption))))
              have cx04 := Rx4.cell 0 rfl
              have cx14 := Rx4.cell 1 rfl
              have lx4 := Rx4.lt
              go_wp2_with fail
              refine (Add_any _ _ _ _ _).mono ?_
              rintro e w5 ⟨rfl, hb5⟩
              have Ra5 : Row w5 w.heap.size [.int .i64 a0, .int .i64 a1] := by (repeat' (first | (with_reducible assumption) | (with_reducible refine Row.new' _ _ _ (by first | rfl | (simp; done) | omega)) | (with_reducible refine Row.alloc ?_ _) | (with_reducible refine Row.drew ?_) | (with_reducible refine Row.drewN ?_ _) | (with_reducible refine Row.step ?_ (by with_reducible assumption))))
              have Rb5 : Row w5 (w.heap.size + 1) [.int .i64 b0, .int .i64 b1] := by (repeat' (first | (with_reducible assumption) | (with_reducible refine Row.new' _ _ _ (by first | rfl | (simp; done) | omega)) | (with_reducible refine Row.alloc ?_ _) | (with_reducible refine Row.drew ?_) | (with_reducible refine Row.drewN ?_ _) | (with_reducible refine Row.step ?_ (by with_reducible assumption))))
              have Rc5 : Row w5 (w.heap.size + 1 + 1) [.int .i64 c0, .int .i64 c1] := by (repeat' (first | (with_reducible assumption) | (with_reducible refine Row.new' _ _ _ (by first | rfl | (simp; done) | omega)) | (with_reducible refine Row.alloc ?_ _) | (with_reducible refine Row.drew ?_) | (with_reducible refine Row.drewN ?_ _) | (with_reducible refine Row.step ?_ (by with_reducible assumption))))
              have ca05 := Ra5.cell 0 rfl
              have ca15 := Ra5.cell 1 rfl
              have cb05 := Rb5.cell 0 rfl
              have cb15 := Rb5.cell 1 rfl
              have cc05 := Rc5.cell 0 rfl
              have cc15 := Rc5.cell 1 rfl
              have la5 := Ra5.lt
              have lb5 := Rb5.lt
              have lc5 := Rc5.lt
              go_wp2_with fail
              refine (Add_any _ _ _ _ _).mono ?_
              rintro e w6 ⟨rfl, hb6⟩
              have Ra6 : Row w6 w.heap.size [.int .i64 a0, .int .i64 a1] := by (repeat' (first | (with_reducible assumption) | (with_reducible refine Row.new' _ _ _ (by first | rfl | (simp; done) | omega)) | (with_reducible refine Row.alloc ?_ _) | (with_reducible refine Row.drew ?_) | (with_reducible refine Row.drewN ?_ _) | (with_reducible refine Row.step ?_ (by with_reducible assumption))))
              have Rb6 : Row w6 (w.heap.size + 1) [.int .i64 b0, .int .i64 b1] := by (repeat' (first | (with_reducible assumption) | (with_reducible refine Row.new' _ _ _ (by first | rfl | (simp; done) | omega)) | (with_reducible refine Row.alloc ?_ _) | (with_reducible refine Row.drew ?_) | (with_reducible refine Row.drewN ?_ _) | (with_reducible refine Row.step ?_ (by with_reducible assumption))))
              have Rc6 : Row w6 (w.heap.size + 1 + 1) [.int .i64 c0, .int .i64 c1] := by (repeat' (first | (with_reducible assumption) | (with_reducible refine Row.new' _ _ _ (by first | rfl | (simp; done) | omega)) | (with_reducible refine Row.alloc ?_ _) | (with_reducible refine Row.drew ?_) | (with_reducible refine Row.drewN ?_ _) | (with_reducible refine Row.step ?_ (by with_reducible assumption))))
              have ca06 := Ra6.cell 0 rfl
              have ca16 := Ra6.cell 1 rfl
              have cb06 := Rb6.cell 0 rfl
              have cb16 := Rb6.cell 1 rfl
              have cc06 := Rc6.cell 0 rfl
              have cc16 := Rc6.cell 1 rfl
              have la6 := Ra6.lt
              have lb6 := Rb6.lt
              have lc6 := Rc6.lt
              go_wp2_with fail
              refine (Add_any _ _ _ _ _).mono ?_
              rintro e w7 ⟨rfl, hb7⟩
              have Ra7 : Row w7 w.heap.size [.int .i64 a0, .int .i64 a1] := by (repeat' (first | (with_reducible assumption) | (with_reducible refine Row.new' _ _ _ (by first | rfl | (simp; done) | omega)) | (with_reducible refine Row.alloc ?_ _) | (with_reducible refine Row.drew ?_) | (with_reducible refine Row.drewN ?_ _) | (with_reducible refine Row.step ?_ (by with_reducible assumption))))
              have Rb7 : Row w7 (w.heap.size + 1) [.int .i64 b0, .int .i64 b1] := by (repeat' (first | (with_reducible assumption) | (with_reducible refine Row.new' _ _ _ (by first | rfl | (simp; done) | omega)) | (with_reducible refine Row.alloc ?_ _) | (with_reducible refine Row.drew ?_) | (with_reducible refine Row.drewN ?_ _) | (with_reducible refine Row.step ?_ (by with_reducible assumption))))
              have Rc7 : Row w7 (w.heap.size + 1 + 1) [.int .i64 c0, .int .i64 c1] := by (repeat' (first | (with_reducible assumption) | (with_reducible refine Row.new' _ _ _ (by first | rfl | (simp; done) | omega)) | (with_reducible refine Row.alloc ?_ _) | (with_reducible refine Row.drew ?_) | (with_reducible refine Row.drewN ?_ _) | (with_reducible refine Row.step ?_ (by with_reducible assumption))))
              have ca07 := Ra7.cell 0 rfl
              have ca17 := Ra7.cell 1 rfl
              have cb07 := Rb7.cell 0 rfl
              have cb17 := Rb7.cell 1 rfl
              have cc07 := Rc7.cell 0 rfl
              have cc17 := Rc7.cell 1 rfl
              have la7 := Ra7.lt
              have lb7 := Rb7.lt
              have lc7 := Rc7.lt
              have Rk7 : Row w7 w4.heap.size [.int .i64 (a0), .int .i64 (a1)] := by (repeat' (first | (with_reducible assumption) | (with_reducible refine Row.new' _ _ _ (by first | rfl | (simp; done) | omega)) | (with_reducible refine Row.alloc ?_ _) | (with_reducible refine Row.drew ?_) | (with_reducible refine Row.drewN ?_ _) | (with_reducible refine Row.step ?_ (by with_reducible assumption))))
              have ck07 := Rk7.cell 0 rfl
              have ck17 := Rk7.cell 1 rfl
              have lk7 := Rk7.lt
              go_wp2_with fail
              go_ret
              refine ⟨rfl, ?_⟩
              (repeat' (first | (with_reducible exact Below.refl _ _) | (with_reducible assumption) | (with_reducible exact Bw.out (by with_reducible assumption)) | (with_reducible refine bw_alloc ?_ _) | (with_reducible refine bw_step ?_ (by with_reducible assumption)) | (with_reducible refine Below.alloc ?_ ?_ _) | (with_reducible refine Below.drew ?_) | (with_reducible refine below_drewN ?_ _) | (with_reducible refine Below.setCell ?_ ?_ _) | (with_reducible refine below_step ?_ (by with_reducible assumption) ?_) | (with_reducible exact Nat.le_refl _) | omega | (simp; omega) | (simp; done)))
          · rw [f2] at o1
            clear f2
            go_enter Try.func7, Try.ntmps7
            go_wp2_with fail
            refine (head_any _).mono ?_
            rintro e w1 ⟨rfl, hb1⟩
            have Ra1 : Row w1 w.heap.size [.int .i64 a0, .int .i64 a1] := by (repeat' (first | (with_reducible assumption) | (with_reducible refine Row.new' _ _ _ (by first | rfl | (simp; done) | omega)) | (with_reducible refine Row.alloc ?_ _) | (with_reducible refine Row.drew ?_) | (with_reducible refine Row.drewN ?_ _) | (with_reducible refine Row.step ?_ (by with_reducible assumption))))
            have Rb1 : Row w1 (w.heap.size + 1) [.int .i64 b0, .int .i64 b1] := by (repeat' (first | (with_reducible assumption) | (with_reducible refine Row.new' _ _ _ (by first | rfl | (simp; done) | omega)) | (with_reducible refine Row.alloc ?_ _) | (with_reducible refine Row.drew ?_) | (with_reducible refine Row.drewN ?_ _) | (with_reducible refine Row.step ?_ (by with_reducible assumption))))
            have Rc1 : Row w1 (w.heap.size + 1 + 1) [.int .i64 c0, .int .i64 c1] := by (repeat' (first | (with_reducible assumption) | (with_reducible refine Row.new' _ _ _ (by first | rfl | (simp; done) | omega)) | (with_reducible refine Row.alloc ?_ _) | (with_reducible refine Row.drew ?_) | (with_reducible refine Row.drewN ?_ _) | (with_reducible refine Row.step ?_ (by with_reducible assumption))))
            have ca01 := Ra1.cell 0 rfl
            have ca11 := Ra1.cell 1 rfl
            have cb01 := Rb1.cell 0 rfl
            have cb11 := Rb1.cell 1 rfl
            have cc01 := Rc1.cell 0 rfl
            have cc11 := Rc1.cell 1 rfl
            have la1 := Ra1.lt
            have lb1 := Rb1.lt
            have lc1 := Rc1.lt
            go_wp2_with fail
            refine (Add_v _ _ _ _ _ va vb).mono ?_
            rintro e w2 ⟨rfl, hb2⟩
            have Ra2 : Row w2 w.heap.size [.int .i64 a0, .int .i64 a1] := by (repeat' (first | (with_reducible assumption) | (with_reducible refine Row.new' _ _ _ (by first | rfl | (simp; done) | omega)) | (with_reducible refine Row.alloc ?_ _) | (with_reducible refine Row.drew ?_) | (with_reducible refine Row.drewN ?_ _) | (with_reducible refine Row.step ?_ (by with_reducible assumption))))
            have Rb2 : Row w2 (w.heap.size + 1) [.int .i64 b0, .int .i64 b1] := by (repeat' (first | (with_reducible assumption) | (with_reducible refine Row.new' _ _ _ (by first | rfl | (simp; done) | omega)) | (with_reducible refine Row.alloc ?_ _) | (with_reducible refine Row.drew ?_) | (with_reducible refine Row.drewN ?_ _) | (with_reducible refine Row.step ?_ (by with_reducible assumption))))
            have Rc2 : Row w2 (w.heap.size + 1 + 1) [.int .i64 c0, .int .i64 c1] := by (repeat' (first | (with_reducible assumption) | (with_reducible refine Row.new' _ _ _ (by first | rfl | (simp; done) | omega)) | (with_reducible refine Row.alloc ?_ _) | (with_reducible refine Row.drew ?_) | (with_reducible refine Row.drewN ?_ _) | (with_reducible refine Row.step ?_ (by with_reducible assumption))))
            have ca02 := Ra2.cell 0 rfl
            have ca12 := Ra2.cell 1 rfl
            have cb02 := Rb2.cell 0 rfl
            have cb12 := Rb2.cell 1 rfl
            have cc02 := Rc2.cell 0 rfl
            have cc12 := Rc2.cell 1 rfl
            have la2 := Ra2.lt
            have lb2 := Rb2.lt
            have lc2 := Rc2.lt
            go_wp2_with fail
            refine (Add_v _ _ _ _ _ vb va).mono ?_
            rintro e w3 ⟨rfl, hb3⟩
            have Ra3 : Row w3 w.heap.size [.int .i64 a0, .int .i64 a1] := by (repeat' (first | (with_reducible assumption) | (with_reducible refine Row.new' _ _ _ (by first | rfl | (simp; done) | omega)) | (with_reducible refine Row.alloc ?_ _) | (with_reducible refine Row.drew ?_) | (with_reducible refine Row.drewN ?_ _) | (with_reducible refine Row.step ?_ (by with_reducible assumption))))
            have Rb3 : Row w3 (w.heap.size + 1) [.int .i64 b0, .int .i64 b1] := by (repeat' (first | (with_reducible assumption) | (with_reducible refine Row.new' _ _ _ (by first | rfl | (simp; done) | omega)) | (with_reducible refine Row.alloc ?_ _) | (with_reducible refine Row.drew ?_) | (with_reducible refine Row.drewN ?_ _) | (with_reducible refine Row.step ?_ (by with_reducible assumption))))
            have Rc3 : Row w3 (w.heap.size + 1 + 1) [.int .i64 c0, .int .i64 c1] := by (repeat' (first | (with_reducible assumption) | (with_reducible refine Row.new' _ _ _ (by first | rfl | (simp; done) | omega)) | (with_reducible refine Row.alloc ?_ _) | (with_reducible refine Row.drew ?_) | (with_reducible refine Row.drewN ?_ _) | (with_reducible refine Row.step ?_ (by with_reducible assumption))))
            have ca03 := Ra3.cell 0 rfl
            have ca13 := Ra3.cell 1 rfl
            have cb03 := Rb3.cell 0 rfl
            have cb13 := Rb3.cell 1 rfl
            have cc03 := Rc3.cell 0 rfl
            have cc13 := Rc3.cell 1 rfl
            have la3 := Ra3.lt
            have lb3 := Rb3.lt
            have lc3 := Rc3.lt
            have Rx3 : Row w3 w2.heap.size [.int .i64 (fitN (a0 * b1 + b0 * a1) (a1 * b1)), .int .i64 (fitD (a0 * b1 + b0 * a1) (a1 * b1))] := by (repeat' (first | (with_reducible assumption) | (with_reducible refine Row.new' _ _ _ (by first | rfl | (simp; done) | omega)) | (with_reducible refine Row.alloc ?_ _) | (with_reducible refine Row.drew ?_) | (with_reducible refine Row.drewN ?_ _) | (with_reducible refine Row.step ?_ (by with_reducible assumption))))
            have cx03 := Rx3.cell 0 rfl
            have cx13 := Rx3.cell 1 rfl
            have lx3 := Rx3.lt
            go_wp2_with fail
            refine (Sub_v _ _ _ _ _ vx vb).mono ?_
            rintro e w4 ⟨rfl, hb4⟩
            have Ra4 : Row w4 w.heap.size [.int .i64 a0, .int .i64 a1] := by (repeat' (first | (with_reducible assumption) | (with_reducible refine Row.new' _ _ _ (by first | rfl | (simp; done) | omega)) | (with_reducible refine Row.alloc ?_ _) | (with_reducible refine Row.drew ?_) | (with_reducible refine Row.drewN ?_ _) | (with_reducible refine Row.step ?_ (by with_reducible assumption))))
            have Rb4 : Row w4 (w.heap.size + 1) [.int .i64 b0, .int .i64 b1] := by (repeat' (first | (with_reducible assumption) | (with_reducible refine Row.new' _ _ _ (by first | rfl | (simp; done) | omega)) | (with_reducible refine Row.alloc ?_ _) | (with_reducible refine Row.drew ?_) | (with_reducible refine Row.drewN ?_ _) | (with_reducible refine Row.step ?_ (by with_reducible assumption))))
            have Rc4 : Row w4 (w.heap.size + 1 + 1) [.int .i64 c0, .int .i64 c1] := by (repeat' (first | (with_reducible assumption) | (with_reducible refine Row.new' _ _ _ (by first | rfl | (simp; done) | omega)) | (with_reducible refine Row.alloc ?_ _) | (with_reducible refine Row.drew ?_) | (with_reducible refine Row.drewN ?_ _) | (with_reducible refine Row.step ?_ (by with_reducible assumption))))
            have ca04 := Ra4.cell 0 rfl
            have ca14 := Ra4.cell 1 rfl
            have cb04 := Rb4.cell 0 rfl
            have cb14 := Rb4.cell 1 rfl
            have cc04 := Rc4.cell 0 rfl
            have cc14 := Rc4.cell 1 rfl
            have la4 := Ra4.lt
            have lb4 := Rb4.lt
            have lc4 := Rc4.lt
            have Rx4 : Row w4 w2.heap.size [.int .i64 (fitN (a0 * b1 + b0 * a1) (a1 * b1)), .int .i64 (fitD (a0 * b1 + b0 * a1) (a1 * b1))] := by (repeat' (first | (with_reducible assumption) | (with_reducible refine Row.new' _ _ _ (by first | rfl | (simp; done) | omega)) | (with_reducible refine Row.alloc ?_ _) | (with_reducible refine Row.drew ?_) | (with_reducible refine Row.drewN ?_ _) | (with_reducible refine Row.step ?_ (by with_reducible assumption))))
            have cx04 := Rx4.cell 0 rfl
            have cx14 := Rx4.cell 1 rfl
            have lx4 := Rx4.lt
            go_wp2_with fail
            refine (Add_any _ _ _ _ _).mono ?_
            rintro e w5 ⟨rfl, hb5⟩
            have Ra5 : Row w5 w.heap.size [.int .i64 a0, .int .i64 a1] := by (repeat' (first | (with_reducible assumption) | (with_reducible refine Row.new' _ _ _ (by first | rfl | (simp; done) | omega)) | (with_reducible refine Row.alloc ?_ _) | (with_reducible refine Row.drew ?_) | (with_reducible refine Row.drewN ?_ _) | (with_reducible refine Row.step ?_ (by with_reducible assumption))))
            have Rb5 : Row w5 (w.heap.size + 1) [.int .i64 b0, .int .i64 b1] := by (repeat' (first | (with_reducible assumption) | (with_reducible refine Row.new' _ _ _ (by first | rfl | (simp; done) | omega)) | (with_reducible refine Row.alloc ?_ _) | (with_reducible refine Row.drew ?_) | (with_reducible refine Row.drewN ?_ _) | (with_reducible refine Row.step ?_ (by with_reducible assumption))))
            have Rc5 : Row w5 (w.heap.size + 1 + 1) [.int .i64 c0, .int .i64 c1] := by (repeat' (first | (with_reducible assumption) | (with_reducible refine Row.new' _ _ _ (by first | rfl | (simp; done) | omega)) | (with_reducible refine Row.alloc ?_ _) | (with_reducible refine Row.drew ?_) | (with_reducible refine Row.drewN ?_ _) | (with_reducible refine Row.step ?_ (by with_reducible assumption))))
            have ca05 := Ra5.cell 0 rfl
            have ca15 := Ra5.cell 1 rfl
            have cb05 := Rb5.cell 0 rfl
            have cb15 := Rb5.cell 1 rfl
            have cc05 := Rc5.cell 0 rfl
            have cc15 := Rc5.cell 1 rfl
            have la5 := Ra5.lt
            have lb5 := Rb5.lt
            have lc5 := Rc5.lt
            go_wp2_with fail
            refine (Add_any _ _ _ _ _).mono ?_
            rintro e w6 ⟨rfl, hb6⟩
            have Ra6 : Row w6 w.heap.size [.int .i64 a0, .int .i64 a1] := by (repeat' (first | (with_reducible assumption) | (with_reducible refine Row.new' _ _ _ (by first | rfl | (simp; done) | omega)) | (with_reducible refine Row.alloc ?_ _) | (with_reducible refine Row.drew ?_) | (with_reducible refine Row.drewN ?_ _) | (with_reducible refine Row.step ?_ (by with_reducible assumption))))
            have Rb6 : Row w6 (w.heap.size + 1) [.int .i64 b0, .int .i64 b1] := by (repeat' (first | (with_reducible assumption) | (with_reducible refine Row.new' _ _ _ (by first | rfl | (simp; done) | omega)) | (with_reducible refine Row.alloc ?_ _) | (with_reducible refine Row.drew ?_) | (with_reducible refine Row.drewN ?_ _) | (with_reducible refine Row.step ?_ (by with_reducible assumption))))
            have Rc6 : Row w6 (w.heap.size + 1 + 1) [.int .i64 c0, .int .i64 c1] := by (repeat' (first | (with_reducible assumption) | (with_reducible refine Row.new' _ _ _ (by first | rfl | (simp; done) | omega)) | (with_reducible refine Row.alloc ?_ _) | (with_reducible refine Row.drew ?_) | (with_reducible refine Row.drewN ?_ _) | (with_reducible refine Row.step ?_ (by with_reducible assumption))))
            have ca06 := Ra6.cell 0 rfl
            have ca16 := Ra6.cell 1 rfl
            have cb06 := Rb6.cell 0 rfl
            have cb16 := Rb6.cell 1 rfl
            have cc06 := Rc6.cell 0 rfl
            have cc16 := Rc6.cell 1 rfl
            have la6 := Ra6.lt
            have lb6 := Rb6.lt
            have lc6 := Rc6.lt
            go_wp2_with fail
            refine (Add_any _ _ _ _ _).mono ?_
            rintro e w7 ⟨rfl, hb7⟩
            have Ra7 : Row w7 w.heap.size [.int .i64 a0, .int .i64 a1] := by (repeat' (first | (with_reducible assumption) | (with_reducible refine Row.new' _ _ _ (by first | rfl | (simp; done) | omega)) | (with_reducible refine Row.alloc ?_ _) | (with_reducible refine Row.drew ?_) | (with_reducible refine Row.drewN ?_ _) | (with_reducible refine Row.step ?_ (by with_reducible assumption))))
            have Rb7 : Row w7 (w.heap.size + 1) [.int .i64 b0, .int .i64 b1] := by (repeat' (first | (with_reducible assumption) | (with_reducible refine Row.new' _ _ _ (by first | rfl | (simp; done) | omega)) | (with_reducible refine Row.alloc ?_ _) | (with_reducible refine Row.drew ?_) | (with_reducible refine Row.drewN ?_ _) | (with_reducible refine Row.step ?_ (by with_reducible assumption))))
            have Rc7 : Row w7 (w.heap.size + 1 + 1) [.int .i64 c0, .int .i64 c1] := by (repeat' (first | (with_reducible assumption) | (with_reducible refine Row.new' _ _ _ (by first | rfl | (simp; done) | omega)) | (with_reducible refine Row.alloc ?_ _) | (with_reducible refine Row.drew ?_) | (with_reducible refine Row.drewN ?_ _) | (with_reducible refine Row.step ?_ (by with_reducible assumption))))
            have ca07 := Ra7.cell 0 rfl
            have ca17 := Ra7.cell 1 rfl
            have cb07 := Rb7.cell 0 rfl
            have cb17 := Rb7.cell 1 rfl
            have cc07 := Rc7.cell 0 rfl
            have cc17 := Rc7.cell 1 rfl
            have la7 := Ra7.lt
            have lb7 := Rb7.lt
            have lc7 := Rc7.lt
            have Rk7 : Row w7 w4.heap.size [.int .i64 (a0), .int .i64 (a1)] := by (repeat' (first | (with_reducible assumption) | (with_reducible refine Row.new' _ _ _ (by first | rfl | (simp; done) | omega)) | (with_reducible refine Row.alloc ?_ _) | (with_reducible refine Row.drew ?_) | (with_reducible refine Row.drewN ?_ _) | (with_reducible refine Row.step ?_ (by with_reducible assumption))))
            have ck07 := Rk7.cell 0 rfl
            have ck17 := Rk7.cell 1 rfl
            have lk7 := Rk7.lt
            go_wp2_with fail
            go_ret
            refine ⟨rfl, ?_⟩
            (repeat' (first | (with_reducible exact Below.refl _ _) | (with_reducible assumption) | (with_reducible exact Bw.out (by with_reducible assumption)) | (with_reducible refine bw_alloc ?_ _) | (with_reducible refine bw_step ?_ (by with_reducible assumption)) | (with_reducible refine Below.alloc ?_ ?_ _) | (with_reducible refine Below.drew ?_) | (with_reducible refine below_drewN ?_ _) | (with_reducible refine Below.setCell ?_ ?_ _) | (with_reducible refine below_step ?_ (by with_reducible assumption) ?_) | (with_reducible exact Nat.le_refl _) | omega | (simp; omega) | (simp; done)))
        · have ec := vld_false vc
          have o1 := (op_not (n := fitN (a0 * b1 + b0 * a1) (a1 * b1) * c1 + c0 * fitD (a0 * b1 + b0 * a1) (a1 * b1)) (m := fitD (a0 * b1 + b0 * a1) (a1 * b1) * c1) (fun h => vc h.2 : ¬ (vldP (fitN (a0 * b1 + b0 * a1) (a1 * b1)) (fitD (a0 * b1 + b0 * a1) (a1 * b1)) ∧ vldP c0 c1))).2.2
          go_enter Try.func7, Try.ntmps7
          go_wp2_with fail
          refine (head_any _).mono ?_
          rintro e w1 ⟨rfl, hb1⟩
          have Ra1 : Row w1 w.heap.size [.int .i64 a0, .int .i64 a1] := by (repeat' (first | (with_reducible assumption) | (with_reducible refine Row.new' _ _ _ (by first | rfl | (simp; done) | omega)) | (with_reducible refine Row.alloc ?_ _) | (with_reducible refine Row.drew ?_) | (with_reducible refine Row.drewN ?_ _) | (with_reducible refine Row.step ?_ (by with_reducible assumption))))
          have Rb1 : Row w1 (w.heap.size + 1) [.int .i64 b0, .int .i64 b1] := by (repeat' (first | (with_reducible assumption) | (with_reducible refine Row.new' _ _ _ (by first | rfl | (simp; done) | omega)) | (with_reducible refine Row.alloc ?_ _) | (with_reducible refine Row.drew ?_) | (with_reducible refine Row.drewN ?_ _) | (with_reducible refine Row.step ?_ (by with_reducible assumption))))
          have Rc1 : Row w1 (w.heap.size + 1 + 1) [.int .i64 c0, .int .i64 c1] := by (repeat' (first | (with_reducible assumption) | (with_reducible refine Row.new' _ _ _ (by first | rfl | (simp; done) | omega)) | (with_reducible refine Row.alloc ?_ _) | (with_reducible refine Row.drew ?_) | (with_reducible refine Row.drewN ?_ _) | (with_reducible refine Row.step ?_ (by with_reducible assumption))))
          have ca01 := Ra1.cell 0 rfl
          have ca11 := Ra1.cell 1 rfl
          have cb01 := Rb1.cell 0 rfl
          have cb11 := Rb1.cell 1 rfl
          have cc01 := Rc1.cell 0 rfl
          have cc11 := Rc1.cell 1 rfl
          have la1 := Ra1.lt
          have lb1 := Rb1.lt
          have lc1 := Rc1.lt
          go_wp2_with fail
          refine (Add_v _ _ _ _ _ va vb).mono ?_
          rintro e w2 ⟨rfl, hb2⟩
          have Ra2 : Row w2 w.heap.size [.int .i64 a0, .int .i64 a1] := by (repeat' (first | (with_reducible assumption) | (with_reducible refine Row.new' _ _ _ (by first | rfl | (simp; done) | omega)) | (with_reducible refine Row.alloc ?_ _) | (with_reducible refine Row.drew ?_) | (with_reducible refine Row.drewN ?_ _) | (with_reducible refine Row.step ?_ (by with_reducible assumption))))
          have Rb2 : Row w2 (w.heap.size + 1) [.int .i64 b0, .int .i64 b1] := by (repeat' (first | (with_reducible assumption) | (with_reducible refine Row.new' _ _ _ (by first | rfl | (simp; done) | omega)) | (with_reducible refine Row.alloc ?_ _) | (with_reducible refine Row.drew ?_) | (with_reducible refine Row.drewN ?_ _) | (with_reducible refine Row.step ?_ (by with_reducible assumption))))
          have Rc2 : Row w2 (w.heap.size + 1 + 1) [.int .i64 c0, .int .i64 c1] := by (repeat' (first | (with_reducible assumption) | (with_reducible refine Row.new' _ _ _ (by first | rfl | (simp; done) | omega)) | (with_reducible refine Row.alloc ?_ _) | (with_reducible refine Row.drew ?_) | (with_reducible refine Row.drewN ?_ _) | (with_reducible refine Row.step ?_ (by with_reducible assumption))))
          have ca02 := Ra2.cell 0 rfl
          have ca12 := Ra2.cell 1 rfl
          have cb02 := Rb2.cell 0 rfl
          have cb12 := Rb2.cell 1 rfl
          have cc02 := Rc2.cell 0 rfl
          have cc12 := Rc2.cell 1 rfl
          have la2 := Ra2.lt
          have lb2 := Rb2.lt
          have lc2 := Rc2.lt
          go_wp2_with fail
          refine (Add_v _ _ _ _ _ vb va).mono ?_
          rintro e w3 ⟨rfl, hb3⟩
          have Ra3 : Row w3 w.heap.size [.int .i64 a0, .int .i64 a1] := by (repeat' (first | (with_reducible assumption) | (with_reducible refine Row.new' _ _ _ (by first | rfl | (simp; done) | omega)) | (with_reducible refine Row.alloc ?_ _) | (with_reducible refine Row.drew ?_) | (with_reducible refine Row.drewN ?_ _) | (with_reducible refine Row.step ?_ (by with_reducible assumption))))
          have Rb3 : Row w3 (w.heap.size + 1) [.int .i64 b0, .int .i64 b1] := by (repeat' (first | (with_reducible assumption) | (with_reducible refine Row.new' _ _ _ (by first | rfl | (simp; done) | omega)) | (with_reducible refine Row.alloc ?_ _) | (with_reducible refine Row.drew ?_) | (with_reducible refine Row.drewN ?_ _) | (with_reducible refine Row.step ?_ (by with_reducible assumption))))
          have Rc3 : Row w3 (w.heap.size + 1 + 1) [.int .i64 c0, .int .i64 c1] := by (repeat' (first | (with_reducible assumption) | (with_reducible refine Row.new' _ _ _ (by first | rfl | (simp; done) | omega)) | (with_reducible refine Row.alloc ?_ _) | (with_reducible refine Row.drew ?_) | (with_reducible refine Row.drewN ?_ _) | (with_reducible refine Row.step ?_ (by with_reducible assumption))))
          have ca03 := Ra3.cell 0 rfl
          have ca13 := Ra3.cell 1 rfl
          have cb03 := Rb3.cell 0 rfl
          have cb13 := Rb3.cell 1 rfl
          have cc03 := Rc3.cell 0 rfl
          have cc13 := Rc3.cell 1 rfl
          have la3 := Ra3.lt
          have lb3 := Rb3.lt
          have lc3 := Rc3.lt
          have Rx3 : Row w3 w2.heap.size [.int .i64 (fitN (a0 * b1 + b0 * a1) (a1 * b1)), .int .i64 (fitD (a0 * b1 + b0 * a1) (a1 * b1))] := by (repeat' (first | (with_reducible assumption) | (with_reducible refine Row.new' _ _ _ (by first | rfl | (simp; done) | omega)) | (with_reducible refine Row.alloc ?_ _) | (with_reducible refine Row.drew ?_) | (with_reducible refine Row.drewN ?_ _) | (with_reducible refine Row.step ?_ (by with_reducible assumption))))
          have cx03 := Rx3.cell 0 rfl
          have cx13 := Rx3.cell 1 rfl
          have lx3 := Rx3.lt
          go_wp2_with fail
          refine (Sub_v _ _ _ _ _ vx vb).mono ?_
          rintro e w4 ⟨rfl, hb4⟩
          have Ra4 : Row w4 w.heap.size [.int .i64 a0, .int .i64 a1] := by (repeat' (first | (with_reducible assumption) | (with_reducible refine Row.new' _ _ _ (by first | rfl | (simp; done) | omega)) | (with_reducible refine Row.alloc ?_ _) | (with_reducible refine Row.drew ?_) | (with_reducible refine Row.drewN ?_ _) | (with_reducible refine Row.step ?_ (by with_reducible assumption))))
          have Rb4 : Row w4 (w.heap.size + 1) [.int .i64 b0, .int .i64 b1] := by (repeat' (first | (with_reducible assumption) | (with_reducible refine Row.new' _ _ _ (by first | rfl | (simp; done) | omega)) | (with_reducible refine Row.alloc ?_ _) | (with_reducible refine Row.drew ?_) | (with_reducible refine Row.drewN ?_ _) | (with_reducible refine Row.step ?_ (by with_reducible assumption))))
          have Rc4 : Row w4 (w.heap.size + 1 + 1) [.int .i64 c0, .int .i64 c1] := by (repeat' (first | (with_reducible assumption) | (with_reducible refine Row.new' _ _ _ (by first | rfl | (simp; done) | omega)) | (with_reducible refine Row.alloc ?_ _) | (with_reducible refine Row.drew ?_) | (with_reducible refine Row.drewN ?_ _) | (with_reducible refine Row.step ?_ (by with_reducible assumption))))
          have ca04 := Ra4.cell 0 rfl
          have ca14 := Ra4.cell 1 rfl
          have cb04 := Rb4.cell 0 rfl
          have cb14 := Rb4.cell 1 rfl
          have cc04 := Rc4.cell 0 rfl
          have cc14 := Rc4.cell 1 rfl
          have la4 := Ra4.lt
          have lb4 := Rb4.lt
          have lc4 := Rc4.lt
          have Rx4 : Row w4 w2.heap.size [.int .i64 (fitN (a0 * b1 + b0 * a1) (a1 * b1)), .int .i64 (fitD (a0 * b1 + b0 * a1) (a1 * b1))] := by (repeat' (first | (with_reducible assumption) | (with_reducible refine Row.new' _ _ _ (by first | rfl | (simp; done) | omega)) | (with_reducible refine Row.alloc ?_ _) | (with_reducible refine Row.drew ?_) | (with_reducible refine Row.drewN ?_ _) | (with_reducible refine Row.step ?_ (by with_reducible assumption))))
          have cx04 := Rx4.cell 0 rfl
          have cx14 := Rx4.cell 1 rfl
          have lx4 := Rx4.lt
          go_wp2_with fail
          refine (Add_any _ _ _ _ _).mono ?_
          rintro e w5 ⟨rfl, hb5⟩
          have Ra5 : Row w5 w.heap.size [.int .i64 a0, .int .i64 a1] := by (repeat' (first | (with_reducible assumption) | (with_reducible refine Row.new' _ _ _ (by first | rfl | (simp; done) | omega)) | (with_reducible refine Row.alloc ?_ _) | (with_reducible refine Row.drew ?_) | (with_reducible refine Row.drewN ?_ _) | (with_reducible refine Row.step ?_ (by with_reducible assumption))))
          have Rb5 : Row w5 (w.heap.size + 1) [.int .i64 b0, .int .i64 b1] := by (repeat' (first | (with_reducible assumption) | (with_reducible refine Row.new' _ _ _ (by first | rfl | (simp; done) | omega)) | (with_reducible refine Row.alloc ?_ _) | (with_reducible refine Row.drew ?_) | (with_reducible refine Row.drewN ?_ _) | (with_reducible refine Row.step ?_ (by with_reducible assumption))))
          have Rc5 : Row w5 (w.heap.size + 1 + 1) [.int .i64 c0, .int .i64 c1] := by (repeat' (first | (with_reducible assumption) | (with_reducible refine Row.new' _ _ _ (by first | rfl | (simp; done) | omega)) | (with_reducible refine Row.alloc ?_ _) | (with_reducible refine Row.drew ?_) | (with_reducible refine Row.drewN ?_ _) | (with_reducible refine Row.step ?_ (by with_reducible assumption))))
          have ca05 := Ra5.cell 0 rfl
          have ca15 := Ra5.cell 1 rfl
          have cb05 := Rb5.cell 0 rfl
          have cb15 := Rb5.cell 1 rfl
          have cc05 := Rc5.cell 0 rfl
          have cc15 := Rc5.cell 1 rfl
          have la5 := Ra5.lt
          have lb5 := Rb5.lt
          have lc5 := Rc5.lt
          go_wp2_with fail
          refine (Add_any _ _ _ _ _).mono ?_
          rintro e w6 ⟨rfl, hb6⟩
          have Ra6 : Row w6 w.heap.size [.int .i64 a0, .int .i64 a1] := by (repeat' (first | (with_reducible assumption) | (with_reducible refine Row.new' _ _ _ (by first | rfl | (simp; done) | omega)) | (with_reducible refine Row.alloc ?_ _) | (with_reducible refine Row.drew ?_) | (with_reducible refine Row.drewN ?_ _) | (with_reducible refine Row.step ?_ (by with_reducible assumption))))
          have Rb6 : Row w6 (w.heap.size + 1) [.int .i64 b0, .int .i64 b1] := by (repeat' (first | (with_reducible assumption) | (with_reducible refine Row.new' _ _ _ (by first | rfl | (simp; done) | omega)) | (with_reducible refine Row.alloc ?_ _) | (with_reducible refine Row.drew ?_) | (with_reducible refine Row.drewN ?_ _) | (with_reducible refine Row.step ?_ (by with_reducible assumption))))
          have Rc6 : Row w6 (w.heap.size + 1 + 1) [.int .i64 c0, .int .i64 c1] := by (repeat' (first | (with_reducible assumption) | (with_reducible refine Row.new' _ _ _ (by first | rfl | (simp; done) | omega)) | (with_reducible refine Row.alloc ?_ _) | (with_reducible refine Row.drew ?_) | (with_reducible refine Row.drewN ?_ _) | (with_reducible refine Row.step ?_ (by with_reducible assumption))))
          have ca06 := Ra6.cell 0 rfl
          have ca16 := Ra6.cell 1 rfl
          have cb06 := Rb6.cell 0 rfl
          have cb16 := Rb6.cell 1 rfl
          have cc06 := Rc6.cell 0 rfl
          have cc16 := Rc6.cell 1 rfl
          have la6 := Ra6.lt
          have lb6 := Rb6.lt
          have lc6 := Rc6.lt
          go_wp2_with fail
          refine (Add_any _ _ _ _ _).mono ?_
          rintro e w7 ⟨rfl, hb7⟩
          have Ra7 : Row w7 w.heap.size [.int .i64 a0, .int .i64 a1] := by (repeat' (first | (with_reducible assumption) | (with_reducible refine Row.new' _ _ _ (by first | rfl | (simp; done) | omega)) | (with_reducible refine Row.alloc ?_ _) | (with_reducible refine Row.drew ?_) | (with_reducible refine Row.drewN ?_ _) | (with_reducible refine Row.step ?_ (by with_reducible assumption))))
          have Rb7 : Row w7 (w.heap.size + 1) [.int .i64 b0, .int .i64 b1] := by (repeat' (first | (with_reducible assumption) | (with_reducible refine Row.new' _ _ _ (by first | rfl | (simp; done) | omega)) | (with_reducible refine Row.alloc ?_ _) | (with_reducible refine Row.drew ?_) | (with_reducible refine Row.drewN ?_ _) | (with_reducible refine Row.step ?_ (by with_reducible assumption))))
          have Rc7 : Row w7 (w.heap.size + 1 + 1) [.int .i64 c0, .int .i64 c1] := by (repeat' (first | (with_reducible assumption) | (with_reducible refine Row.new' _ _ _ (by first | rfl | (simp; done) | omega)) | (with_reducible refine Row.alloc ?_ _) | (with_reducible refine Row.drew ?_) | (with_reducible refine Row.drewN ?_ _) | (with_reducible refine Row.step ?_ (by with_reducible assumption))))
          have ca07 := Ra7.cell 0 rfl
          have ca17 := Ra7.cell 1 rfl
          have cb07 := Rb7.cell 0 rfl
          have cb17 := Rb7.cell 1 rfl
          have cc07 := Rc7.cell 0 rfl
          have cc17 := Rc7.cell 1 rfl
          have la7 := Ra7.lt
          have lb7 := Rb7.lt
          have lc7 := Rc7.lt
          have Rk7 : Row w7 w4.heap.size [.int .i64 (a0), .int .i64 (a1)] := by (repeat' (first | (with_reducible assumption) | (with_reducible refine Row.new' _ _ _ (by first | rfl | (simp; done) | omega)) | (with_reducible refine Row.alloc ?_ _) | (with_reducible refine Row.drew ?_) | (with_reducible refine Row.drewN ?_ _) | (with_reducible refine Row.step ?_ (by with_reducible assumption))))
          have ck07 := Rk7.cell 0 rfl
          have ck17 := Rk7.cell 1 rfl
          have lk7 := Rk7.lt
          go_wp2_with fail
          go_ret
          refine ⟨rfl, ?_⟩
          (repeat' (first | (with_reducible exact Below.refl _ _) | (with_reducible assumption) | (with_reducible exact Bw.out (by with_reducible assumption)) | (with_reducible refine bw_alloc ?_ _) | (with_reducible refine bw_step ?_ (by with_reducible assumption)) | (with_reducible refine Below.alloc ?_ ?_ _) | (with_reducible refine Below.drew ?_) | (with_reducible refine below_drewN ?_ _) | (with_reducible refine Below.setCell ?_ ?_ _) | (with_reducible refine below_step ?_ (by with_reducible assumption) ?_) | (with_reducible exact Nat.le_refl _) | omega | (simp; omega) | (simp; done)))
      ·
        go_enter Try.func7, Try.ntmps7
        go_wp2_with fail
        refine (head_any _).mono ?_
        rintro e w1 ⟨rfl, hb1⟩
        have Ra1 : Row w1 w.heap.size [.int .i64 a0, .int .i64 a1] := by (repeat' (first | (with_reducible assumption) | (with_reducible refine Row.new' _ _ _ (by first | rfl | (simp; done) | omega)) | (with_reducible refine Row.alloc ?_ _) | (with_reducible refine Row.drew ?_) | (with_reducible refine Row.drewN ?_ _) | (with_reducible refine Row.step ?_ (by with_reducible assumption))))
        have Rb1 : Row w1 (w.heap.size + 1) [.int .i64 b0, .int .i64 b1] := by (repeat' (first | (with_reducible assumption) | (with_reducible refine Row.new' _ _ _ (by first | rfl | (simp; done) | omega)) | (with_reducible refine Row.alloc ?_ _) | (with_reducible refine Row.drew ?_) | (with_reducible refine Row.drewN ?_ _) | (with_reducible refine Row.step ?_ (by with_reducible assumption))))
        have Rc1 : Row w1 (w.heap.size + 1 + 1) [.int .i64 c0, .int .i64 c1] := by (repeat' (first | (with_reducible assumption) | (with_reducible refine Row.new' _ _ _ (by first | rfl | (simp; done) | omega)) | (with_reducible refine Row.alloc ?_ _) | (with_reducible refine Row.drew ?_) | (with_reducible refine Row.drewN ?_ _) | (with_reducible refine Row.step ?_ (by with_reducible assumption))))
        have ca01 := Ra1.cell 0 rfl
        have ca11 := Ra1.cell 1 rfl
        have cb01 := Rb1.cell 0 rfl
        have cb11 := Rb1.cell 1 rfl
        have cc01 := Rc1.cell 0 rfl
        have cc11 := Rc1.cell 1 rfl
        have la1 := Ra1.lt
        have lb1 := Rb1.lt
        have lc1 := Rc1.lt
        go_wp2_with fail
        refine (Add_v _ _ _ _ _ va vb).mono ?_
        rintro e w2 ⟨rfl, hb2⟩
        have Ra2 : Row w2 w.heap.size [.int .i64 a0, .int .i64 a1] := by (repeat' (first | (with_reducible assumption) | (with_reducible refine Row.new' _ _ _ (by first | rfl | (simp; done) | omega)) | (with_reducible refine Row.alloc ?_ _) | (with_reducible refine Row.drew ?_) | (with_reducible refine Row.drewN ?_ _) | (with_reducible refine Row.step ?_ (by with_reducible assumption))))
        have Rb2 : Row w2 (w.heap.size + 1) [.int .i64 b0, .int .i64 b1] := by (repeat' (first | (with_reducible assumption) | (with_reducible refine Row.new' _ _ _ (by first | rfl | (simp; done) | omega)) | (with_reducible refine Row.alloc ?_ _) | (with_reducible refine Row.drew ?_) | (with_reducible refine Row.drewN ?_ _) | (with_reducible refine Row.step ?_ (by with_reducible assumption))))
        have Rc2 : Row w2 (w.heap.size + 1 + 1) [.int .i64 c0, .int .i64 c1] := by (repeat' (first | (with_reducible assumption) | (with_reducible refine Row.new' _ _ _ (by first | rfl | (simp; done) | omega)) | (with_reducible refine Row.alloc ?_ _) | (with_reducible refine Row.drew ?_) | (with_reducible refine Row.drewN ?_ _) | (with_reducible refine Row.step ?_ (by with_reducible assumption))))
        have ca02 := Ra2.cell 0 rfl
        have ca12 := Ra2.cell 1 rfl
        have cb02 := Rb2.cell 0 rfl
        have cb12 := Rb2.cell 1 rfl
        have cc02 := Rc2.cell 0 rfl
        have cc12 := Rc2.cell 1 rfl
        have la2 := Ra2.lt
        have lb2 := Rb2.lt
        have lc2 := Rc2.lt
        go_wp2_with fail
        refine (Add_v _ _ _ _ _ vb va).mono ?_
        rintro e w3 ⟨rfl, hb3⟩
        have Ra3 : Row w3 w.heap.size [.int .i64 a0, .int .i64 a1] := by (repeat' (first | (with_reducible assumption) | (with_reducible refine Row.new' _ _ _ (by first | rfl | (simp; done) | omega)) | (with_reducible refine Row.alloc ?_ _) | (with_reducible refine Row.drew ?_) | (with_reducible refine Row.drewN ?_ _) | (with_reducible refine Row.step ?_ (by with_reducible assumption))))
        have Rb3 : Row w3 (w.heap.size + 1) [.int .i64 b0, .int .i64 b1] := by (repeat' (first | (with_reducible assumption) | (with_reducible refine Row.new' _ _ _ (by first | rfl | (simp; done) | omega)) | (with_reducible refine Row.alloc ?_ _) | (with_reducible refine Row.drew ?_) | (with_reducible refine Row.drewN ?_ _) | (with_reducible refine Row.step ?_ (by with_reducible assumption))))
        have Rc3 : Row w3 (w.heap.size + 1 + 1) [.int .i64 c0, .int .i64 c1] := by (repeat' (first | (with_reducible assumption) | (with_reducible refine Row.new' _ _ _ (by first | rfl | (simp; done) | omega)) | (with_reducible refine Row.alloc ?_ _) | (with_reducible refine Row.drew ?_) | (with_reducible refine Row.drewN ?_ _) | (with_reducible refine Row.step ?_ (by with_reducible assumption))))
        have ca03 := Ra3.cell 0 rfl
        have ca13 := Ra3.cell 1 rfl
        have cb03 := Rb3.cell 0 rfl
        have cb13 := Rb3.cell 1 rfl
        have cc03 := Rc3.cell 0 rfl
        have cc13 := Rc3.cell 1 rfl
        have la3 := Ra3.lt
        have lb3 := Rb3.lt
        have lc3 := Rc3.lt
        have Rx3 : Row w3 w2.heap.size [.int .i64 (fitN (a0 * b1 + b0 * a1) (a1 * b1)), .int .i64 (fitD (a0 * b1 + b0 * a1) (a1 * b1))] := by (repeat' (first | (with_reducible assumption) | (with_reducible refine Row.new' _ _ _ (by first | rfl | (simp; done) | omega)) | (with_reducible refine Row.alloc ?_ _) | (with_reducible refine Row.drew ?_) | (with_reducible refine Row.drewN ?_ _) | (with_reducible refine Row.step ?_ (by with_reducible assumption))))
        have cx03 := Rx3.cell 0 rfl
        have cx13 := Rx3.cell 1 rfl
        have lx3 := Rx3.lt
        go_wp2_with fail
        go_ret
        refine ⟨rfl, ?_⟩
        (repeat' (first | (with_reducible exact Below.refl _ _) | (with_reducible assumption) | (with_reducible exact Bw.out (by with_reducible assumption)) | (with_reducible refine bw_alloc ?_ _) | (with_reducible refine bw_step ?_ (by with_reducible assumption)) | (with_reducible refine Below.alloc ?_ ?_ _) | (with_reducible refine Below.drew ?_) | (with_reducible refine below_drewN ?_ _) | (with_reducible refine Below.setCell ?_ ?_ _) | (with_reducible refine below_step ?_ (by with_reducible assumption) ?_) | (with_reducible exact Nat.le_refl _) | omega | (simp; omega) | (simp; done)))
    · have eb := vld_false vb
      go_enter Try.func7, Try.ntmps7
      go_wp2_with fail
      refine (head_any _).mono ?_
      rintro e w1 ⟨rfl, hb1⟩
      have Ra1 : Row w1 w.heap.size [.int .i64 a0, .int .i64 a1] := by (repeat' (first | (with_reducible assumption) | (with_reducible refine Row.new' _ _ _ (by first | rfl | (simp; done) | omega)) | (with_reducible refine Row.alloc ?_ _) | (with_reducible refine Row.drew ?_) | (with_reducible refine Row.drewN ?_ _) | (with_reducible refine Row.step ?_ (by with_reducible assumption))))
      have Rb1 : Row w1 (w.heap.size + 1) [.int .i64 b0, .int .i64 b1] := by (repeat' (first | (with_reducible assumption) | (with_reducible refine Row.new' _ _ _ (by first | rfl | (simp; done) | omega)) | (with_reducible refine Row.alloc ?_ _) | (with_reducible refine Row.drew ?_) | (with_reducible refine Row.drewN ?_ _) | (with_reducible refine Row.step ?_ (by with_reducible assumption))))
      have Rc1 : Row w1 (w.heap.size + 1 + 1) [.int .i64 c0, .int .i64 c1] := by (repeat' (first | (with_reducible assumption) | (with_reducible refine Row.new' _ _ _ (by first | rfl | (simp; done) | omega)) | (with_reducible refine Row.alloc ?_ _) | (with_reducible refine Row.drew ?_) | (with_reducible refine Row.drewN ?_ _) | (with_reducible refine Row.step ?_ (by with_reducible assumption))))
      have ca01 := Ra1.cell 0 rfl
      have ca11 := Ra1.cell 1 rfl
      have cb01 := Rb1.cell 0 rfl
      have cb11 := Rb1.cell 1 rfl
      have cc01 := Rc1.cell 0 rfl
      have cc11 := Rc1.cell 1 rfl
      have la1 := Ra1.lt
      have lb1 := Rb1.lt
      have lc1 := Rc1.lt
      go_wp2_with fail
      refine (Add_not _ _ _ _ _ (fun h => vb h.2)).mono ?_
      rintro e w2 ⟨rfl, hb2⟩
      have Ra2 : Row w2 w.heap.size [.int .i64 a0, .int .i64 a1] := by (repeat' (first | (with_reducible assumption) | (with_reducible refine Row.new' _ _ _ (by first | rfl | (simp; done) | omega)) | (with_reducible refine Row.alloc ?_ _) | (with_reducible refine Row.drew ?_) | (with_reducible refine Row.drewN ?_ _) | (with_reducible refine Row.step ?_ (by with_reducible assumption))))
      have Rb2 : Row w2 (w.heap.size + 1) [.int .i64 b0, .int .i64 b1] := by (repeat' (first | (with_reducible assumption) | (with_reducible refine Row.new' _ _ _ (by first | rfl | (simp; done) | omega)) | (with_reducible refine Row.alloc ?_ _) | (with_reducible refine Row.drew ?_) | (with_reducible refine Row.drewN ?_ _) | (with_reducible refine Row.step ?_ (by with_reducible assumption))))
      have Rc2 : Row w2 (w.heap.size + 1 + 1) [.int .i64 c0, .int .i64 c1] := by (repeat' (first | (with_reducible assumption) | (with_reducible refine Row.new' _ _ _ (by first | rfl | (simp; done) | omega)) | (with_reducible refine Row.alloc ?_ _) | (with_reducible refine Row.drew ?_) | (with_reducible refine Row.drewN ?_ _) | (with_reducible refine Row.step ?_ (by with_reducible assumption))))
      have ca02 := Ra2.cell 0 rfl
      have ca12 := Ra2.cell 1 rfl
      have cb02 := Rb2.cell 0 rfl
      have cb12 := Rb2.cell 1 rfl
      have cc02 := Rc2.cell 0 rfl
      have cc12 := Rc2.cell 1 rfl
      have la2 := Ra2.lt
      have lb2 := Rb2.lt
      have lc2 := Rc2.lt
      go_wp2_with fail
      refine (Add_not _ _ _ _ _ (fun h => vb h.1)).mono ?_
      rintro e w3 ⟨rfl, hb3⟩
      have Ra3 : Row w3 w.heap.size [.int .i64 a0, .int .i64 a1] := by (repeat' (first | (with_reducible assumption) | (with_reducible refine Row.new' _ _ _ (by first | rfl | (simp; done) | omega)) | (with_reducible refine Row.alloc ?_ _) | (with_reducible refine Row.drew ?_) | (with_reducible refine Row.drewN ?_ _) | (with_reducible refine Row.step ?_ (by with_reducible assumption))))
      have Rb3 : Row w3 (w.heap.size + 1) [.int .i64 b0, .int .i64 b1] := by (repeat' (first | (with_reducible assumption) | (with_reducible refine Row.new' _ _ _ (by first | rfl | (simp; done) | omega)) | (with_reducible refine Row.alloc ?_ _) | (with_reducible refine Row.drew ?_) | (with_reducible refine Row.drewN ?_ _) | (with_reducible refine Row.step ?_ (by with_reducible assumption))))
      have Rc3 : Row w3 (w.heap.size + 1 + 1) [.int .i64 c0, .int .i64 c1] := by (repeat' (first | (with_reducible assumption) | (with_reducible refine Row.new' _ _ _ (by first | rfl | (simp; done) | omega)) | (with_reducible refine Row.alloc ?_ _) | (with_reducible refine Row.drew ?_) | (with_reducible refine Row.drewN ?_ _) | (with_reducible refine Row.step ?_ (by with_reducible assumption))))
      have ca03 := Ra3.cell 0 rfl
      have ca13 := Ra3.cell 1 rfl
      have cb03 := Rb3.cell 0 rfl
      have cb13 := Rb3.cell 1 rfl
      have cc03 := Rc3.cell 0 rfl
      have cc13 := Rc3.cell 1 rfl
      have la3 := Ra3.lt
      have lb3 := Rb3.lt
      have lc3 := Rc3.lt
      have Rx3 : Row w3 w2.heap.size [.int .i64 (0), .int .i64 (0)] := by (repeat' (first | (with_reducible assumption) | (with_reducible refine Row.new' _ _ _ (by first | rfl | (simp; done) | omega)) | (with_reducible refine Row.alloc ?_ _) | (with_reducible refine Row.drew ?_) | (with_reducible refine Row.drewN ?_ _) | (with_reducible refine Row.step ?_ (by with_reducible assumption))))
      have cx03 := Rx3.cell 0 rfl
      have cx13 := Rx3.cell 1 rfl
      have lx3 := Rx3.lt
      go_wp2_with fail
      refine (R_valid_any _ _ _).mono ?_
      rintro e w4 ⟨rfl, hb4⟩
      have Ra4 : Row w4 w.heap.size [.int .i64 a0, .int .i64 a1] := by (repeat' (first | (with_reducible assumption) | (with_reducible refine Row.new' _ _ _ (by first | rfl | (simp; done) | omega)) | (with_reducible refine Row.alloc ?_ _) | (with_reducible refine Row.drew ?_) | (with_reducible refine Row.drewN ?_ _) | (with_reducible refine Row.step ?_ (by with_reducible assumption))))
      have Rb4 : Row w4 (w.heap.size + 1) [.int .i64 b0, .int .i64 b1] := by (repeat' (first | (with_reducible assumption) | (with_reducible refine Row.new' _ _ _ (by first | rfl | (simp; done) | omega)) | (with_reducible refine Row.alloc ?_ _) | (with_reducible refine Row.drew ?_) | (with_reducible refine Row.drewN ?_ _) | (with_reducible refine Row.step ?_ (by with_reducible assumption))))
      have Rc4 : Row w4 (w.heap.size + 1 + 1) [.int .i64 c0, .int .i64 c1] := by (repeat' (first | (with_reducible assumption) | (with_reducible refine Row.new' _ _ _ (by first | rfl | (simp; done) | omega)) | (with_reducible refine Row.alloc ?_ _) | (with_reducible refine Row.drew ?_) | (with_reducible refine Row.drewN ?_ _) | (with_reducible refine Row.step ?_ (by with_reducible assumption))))
      have ca04 := Ra4.cell 0 rfl
      have ca14 := Ra4.cell 1 rfl
      have cb04 := Rb4.cell 0 rfl
      have cb14 := Rb4.cell 1 rfl
      have cc04 := Rc4.cell 0 rfl
      have cc14 := Rc4.cell 1 rfl
      have la4 := Ra4.lt
      have lb4 := Rb4.lt
      have lc4 := Rc4.lt
      go_wp2_with fail
      refine (R_valid_any _ _ _).mono ?_
      rintro e w5 ⟨rfl, hb5⟩
      have Ra5 : Row w5 w.heap.size [.int .i64 a0, .int .i64 a1] := by (repeat' (first | (with_reducible assumption) | (with_reducible refine Row.new' _ _ _ (by first | rfl | (simp; done) | omega)) | (with_reducible refine Row.alloc ?_ _) | (with_reducible refine Row.drew ?_) | (with_reducible refine Row.drewN ?_ _) | (with_reducible refine Row.step ?_ (by with_reducible assumption))))
      have Rb5 : Row w5 (w.heap.size + 1) [.int .i64 b0, .int .i64 b1] := by (repeat' (first | (with_reducible assumption) | (with_reducible refine Row.new' _ _ _ (by first | rfl | (simp; done) | omega)) | (with_reducible refine Row.alloc ?_ _) | (with_reducible refine Row.drew ?_) | (with_reducible refine Row.drewN ?_ _) | (with_reducible refine Row.step ?_ (by with_reducible assumption))))
      have Rc5 : Row w5 (w.heap.size + 1 + 1) [.int .i64 c0, .int .i64 c1] := by (repeat' (first | (with_reducible assumption) | (with_reducible refine Row.new' _ _ _ (by first | rfl | (simp; done) | omega)) | (with_reducible refine Row.alloc ?_ _) | (with_reducible refine Row.drew ?_) | (with_reducible refine Row.drewN ?_ _) | (with_reducible refine Row.step ?_ (by with_reducible assumption))))
      have ca05 := Ra5.cell 0 rfl
      have ca15 := Ra5.cell 1 rfl
      have cb05 := Rb5.cell 0 rfl
      have cb15 := Rb5.cell 1 rfl
      have cc05 := Rc5.cell 0 rfl
      have cc15 := Rc5.cell 1 rfl
      have la5 := Ra5.lt
      have lb5 := Rb5.lt
      have lc5 := Rc5.lt
      go_wp2_with fail
      go_ret
      refine ⟨rfl, ?_⟩
      (repeat' (first | (with_reducible exact Below.refl _ _) | (with_reducible assumption) | (with_reducible exact Bw.out (by with_reducible assumption)) | (with_reducible refine bw_alloc ?_ _) | (with_reducible refine bw_step ?_ (by with_reducible assumption)) | (with_reducible refine Below.alloc ?_ ?_ _) | (with_reducible refine Below.drew ?_) | (with_reducible refine below_drewN ?_ _) | (with_reducible refine Below.setCell ?_ ?_ _) | (with_reducible refine below_step ?_ (by with_reducible assumption) ?_) | (with_reducible exact Nat.le_refl _) | omega | (simp; omega) | (simp; done)))
  · have ea := vld_false va
    go_enter Try.func7, Try.ntmps7
    go_wp2_with fail
    refine (head_any _).mono ?_
    rintro e w1 ⟨rfl, hb1⟩
    have Ra1 : Row w1 w.heap.size [.int .i64 a0, .int .i64 a1] := by (repeat' (first | (with_reducible assumption) | (with_reducible refine Row.new' _ _ _ (by first | rfl | (simp; done) | omega)) | (with_reducible refine Row.alloc ?_ _) | (with_reducible refine Row.drew ?_) | (with_reducible refine Row.drewN ?_ _) | (with_reducible refine Row.step ?_ (by with_reducible assumption))))
    have Rb1 : Row w1 (w.heap.size + 1) [.int .i64 b0, .int .i64 b1] := by (repeat' (first | (with_reducible assumption) | (with_reducible refine Row.new' _ _ _ (by first | rfl | (simp; done) | omega)) | (with_reducible refine Row.alloc ?_ _) | (with_reducible refine Row.drew ?_) | (with_reducible refine Row.drewN ?_ _) | (with_reducible refine Row.step ?_ (by with_reducible assumption))))
    have Rc1 : Row w1 (w.heap.size + 1 + 1) [.int .i64 c0, .int .i64 c1] := by (repeat' (first | (with_reducible assumption) | (with_reducible refine Row.new' _ _ _ (by first | rfl | (simp; done) | omega)) | (with_reducible refine Row.alloc ?_ _) | (with_reducible refine Row.drew ?_) | (with_reducible refine Row.drewN ?_ _) | (with_reducible refine Row.step ?_ (by with_reducible assumption))))
    have ca01 := Ra1.cell 0 rfl
    have ca11 := Ra1.cell 1 rfl
    have cb01 := Rb1.cell 0 rfl
    have cb11 := Rb1.cell 1 rfl
    have cc01 := Rc1.cell 0 rfl
    have cc11 := Rc1.cell 1 rfl
    have la1 := Ra1.lt
    have lb1 := Rb1.lt
    have lc1 := Rc1.lt
    go_wp2_with fail
    refine (Add_not _ _ _ _ _ (fun h => va h.1)).mono ?_
    rintro e w2 ⟨rfl, hb2⟩
    have Ra2 : Row w2 w.heap.size [.int .i64 a0, .int .i64 a1] := by (repeat' (first | (with_reducible assumption) | (with_reducible refine Row.new' _ _ _ (by first | rfl | (simp; done) | omega)) | (with_reducible refine Row.alloc ?_ _) | (with_reducible refine Row.drew ?_) | (with_reducible refine Row.drewN ?_ _) | (with_reducible refine Row.step ?_ (by with_reducible assumption))))
    have Rb2 : Row w2 (w.heap.size + 1) [.int .i64 b0, .int .i64 b1] := by (repeat' (first | (with_reducible assumption) | (with_reducible refine Row.new' _ _ _ (by first | rfl | (simp; done) | omega)) | (with_reducible refine Row.alloc ?_ _) | (with_reducible refine Row.drew ?_) | (with_reducible refine Row.drewN ?_ _) | (with_reducible refine Row.step ?_ (by with_reducible assumption))))
    have Rc2 : Row w2 (w.heap.size + 1 + 1) [.int .i64 c0, .int .i64 c1] := by (repeat' (first | (with_reducible assumption) | (with_reducible refine Row.new' _ _ _ (by first | rfl | (simp; done) | omega)) | (with_reducible refine Row.alloc ?_ _) | (with_reducible refine Row.drew ?_) | (with_reducible refine Row.drewN ?_ _) | (with_reducible refine Row.step ?_ (by with_reducible assumption))))
    have ca02 := Ra2.cell 0 rfl
    have ca12 := Ra2.cell 1 rfl
    have cb02 := Rb2.cell 0 rfl
    have cb12 := Rb2.cell 1 rfl
    have cc02 := Rc2.cell 0 rfl
    have cc12 := Rc2.cell 1 rfl
    have la2 := Ra2.lt
    have lb2 := Rb2.lt
    have lc2 := Rc2.lt
    go_wp2_with fail
    refine (Add_not _ _ _ _ _ (fun h => va h.2)).mono ?_
    rintro e w3 ⟨rfl, hb3⟩
    have Ra3 : Row w3 w.heap.size [.int .i64 a0, .int .i64 a1] := by (repeat' (first | (with_reducible assumption) | (with_reducible refine Row.new' _ _ _ (by first | rfl | (simp; done) | omega)) | (with_reducible refine Row.alloc ?_ _) | (with_reducible refine Row.drew ?_) | (with_reducible refine Row.drewN ?_ _) | (with_reducible refine Row.step ?_ (by with_reducible assumption))))
    have Rb3 : Row w3 (w.heap.size + 1) [.int .i64 b0, .int .i64 b1] := by (repeat' (first | (with_reducible assumption) | (with_reducible refine Row.new' _ _ _ (by first | rfl | (simp; done) | omega)) | (with_reducible refine Row.alloc ?_ _) | (with_reducible refine Row.drew ?_) | (with_reducible refine Row.drewN ?_ _) | (with_reducible refine Row.step ?_ (by with_reducible assumption))))
    have Rc3 : Row w3 (w.heap.size + 1 + 1) [.int .i64 c0, .int .i64 c1] := by (repeat' (first | (with_reducible assumption) | (with_reducible refine Row.new' _ _ _ (by first | rfl | (simp; done) | omega)) | (with_reducible refine Row.alloc ?_ _) | (with_reducible refine Row.drew ?_) | (with_reducible refine Row.drewN ?_ _) | (with_reducible refine Row.step ?_ (by with_reducible assumption))))
    have ca03 := Ra3.cell 0 rfl
    have ca13 := Ra3.cell 1 rfl
    have cb03 := Rb3.cell 0 rfl
    have cb13 := Rb3.cell 1 rfl
    have cc03 := Rc3.cell 0 rfl
    have cc13 := Rc3.cell 1 rfl
    have la3 := Ra3.lt
    have lb3 := Rb3.lt
    have lc3 := Rc3.lt
    have Rx3 : Row w3 w2.heap.size [.int .i64 (0), .int .i64 (0)] := by (repeat' (first | (with_reducible assumption) | (with_reducible refine Row.new' _ _ _ (by first | rfl | (simp; done) | omega)) | (with_reducible refine Row.alloc ?_ _) | (with_reducible refine Row.drew ?_) | (with_reducible refine Row.drewN ?_ _) | (with_reducible refine Row.step ?_ (by with_reducible assumption))))
    have cx03 := Rx3.cell 0 rfl
    have cx13 := Rx3.cell 1 rfl
    have lx3 := Rx3.lt
    go_wp2_with fail
    refine (R_valid_any _ _ _).mono ?_
    rintro e w4 ⟨rfl, hb4⟩
    have Ra4 : Row w4 w.heap.size [.int .i64 a0, .int .i64 a1] := by (repeat' (first | (with_reducible assumption) | (with_reducible refine Row.new' _ _ _ (by first | rfl | (simp; done) | omega)) | (with_reducible refine Row.alloc ?_ _) | (with_reducible refine Row.drew ?_) | (with_reducible refine Row.drewN ?_ _) | (with_reducible refine Row.step ?_ (by with_reducible assumption))))
    have Rb4 : Row w4 (w.heap.size + 1) [.int .i64 b0, .int .i64 b1] := by (repeat' (first | (with_reducible assumption) | (with_reducible refine Row.new' _ _ _ (by first | rfl | (simp; done) | omega)) | (with_reducible refine Row.alloc ?_ _) | (with_reducible refine Row.drew ?_) | (with_reducible refine Row.drewN ?_ _) | (with_reducible refine Row.step ?_ (by with_reducible assumption))))
    have Rc4 : Row w4 (w.heap.size + 1 + 1) [.int .i64 c0, .int .i64 c1] := by (repeat' (first | (with_reducible assumption) | (with_reducible refine Row.new' _ _ _ (by first | rfl | (simp; done) | omega)) | (with_reducible refine Row.alloc ?_ _) | (with_reducible refine Row.drew ?_) | (with_reducible refine Row.drewN ?_ _) | (with_reducible refine Row.step ?_ (by with_reducible assumption))))
    have ca04 := Ra4.cell 0 rfl
    have ca14 := Ra4.cell 1 rfl
    have cb04 := Rb4.cell 0 rfl
    have cb14 := Rb4.cell 1 rfl
    have cc04 := Rc4.cell 0 rfl
    have cc14 := Rc4.cell 1 rfl
    have la4 := Ra4.lt
    have lb4 := Rb4.lt
    have lc4 := Rc4.lt
    go_wp2_with fail
    go_ret
    refine ⟨rfl, ?_⟩
    (repeat' (first | (with_reducible exact Below.refl _ _) | (with_reducible assumption) | (with_reducible exact Bw.out (by with_reducible assumption)) | (with_reducible refine bw_alloc ?_ _) | (with_reducible refine bw_step ?_ (by with_reducible assumption)) | (with_reducible refine Below.alloc ?_ ?_ _) | (with_reducible refine Below.drew ?_) | (with_reducible refine below_drewN ?_ _) | (with_reducible refine Below.setCell ?_ ?_ _) | (with_reducible refine below_step ?_ (by with_reducible assumption) ?_) | (with_reducible exact Nat.le_refl _) | omega | (simp; omega) | (simp; done)))


set_option maxRecDepth 100000 in
theorem ratioSums_lifted (os : Os) (started : os.Started) (H : Type) (enc : TypeId × Value → H) :
    ReturnsInHanded {} Try.checked os 7 .any (Rows.ratioSumsSpec.pre6 enc Try.prog Try.f7 Rows.ratioSumsRow.domain false) (Rows.ratioSumsSpec.post enc Try.prog Try.f7 false true false false) := by
  refine returnsInHanded_of_change (C := Try.checked) own started (by kernel_rfl) Try.func7
    (ChangeSpec.witness6 (enc := enc) (C := Try.checked) false ⟨#[], #[.agg #[.int .i64 0, .int .i64 0], .agg #[.int .i64 0, .int .i64 0], .agg #[.int .i64 0, .int .i64 0]], []⟩ 8 (by kernel_rfl) (by kernel_rfl) (by kernel_rfl) (by kernel_rfl)) ?_
  intro W base args ds gs before hval0 hW _ _
  have hval : ∀ (j : Nat) t v, Try.f7.params[j]? = some t → args[j]? = some v → Value.okWide Try.prog W .any base t v := hval0
  have hW' := hW
  obtain ⟨p, q, hA0, hV, rfl, hfz, hnd⟩ := hW
  obtain ⟨rfl, rfl⟩ := trodVars_none hV
  have hA : DataW.TrodAll enc Try.prog W 0 (fun _ => true) true Try.f7.params.toList args.toList ds p := hA0
  rw [Try.params7] at hA hval
  obtain ⟨v0, vs0, d0, ds0, p0, q0, hargs, rfl, rfl, h0, r0⟩ := trodAll_cons hA
  obtain ⟨v1, vs1, d1, ds1, p1, q1, rfl, rfl, rfl, h1, r1⟩ := trodAll_cons r0
  obtain ⟨v2, vs2, d2, ds2, p2, q2, rfl, rfl, rfl, h2, r2⟩ := trodAll_cons r1
  obtain ⟨rfl, rfl, rfl⟩ := trodAll_nil r2
  obtain rfl : args = #[v0, v1, v2] := by cases args; simp_all
  obtain ⟨c00, c01, y00, y01, m0, rfl, rfl, rfl, hy00, hy01⟩ := Go.Joins.open_agg2 Try.underlying24 (by kernel_rfl) (by kernel_rfl) (hval 0 24 v0 rfl rfl) h0
  obtain ⟨a0, e00, rfl, wa0⟩ := DataW.trod_int Try.underlying3 hy00
  simp only [List.cons.injEq, and_true] at e00
  subst e00
  obtain ⟨a1, e01, rfl, wa1⟩ := DataW.trod_int Try.underlying3 hy01
  simp only [List.cons.injEq, and_true] at e01
  subst e01
  obtain ⟨c10, c11, y10, y11, m1, rfl, rfl, rfl, hy10, hy11⟩ := Go.Joins.open_agg2 Try.underlying24 (by kernel_rfl) (by kernel_rfl) (hval 1 24 v1 rfl rfl) h1
  obtain ⟨b0, e10, rfl, wb0⟩ := DataW.trod_int Try.underlying3 hy10
  simp only [List.cons.injEq, and_true] at e10
  subst e10
  obtain ⟨b1, e11, rfl, wb1⟩ := DataW.trod_int Try.underlying3 hy11
  simp only [List.cons.injEq, and_true] at e11
  subst e11
  obtain ⟨c20, c21, y20, y21, m2, rfl, rfl, rfl, hy20, hy21⟩ := Go.Joins.open_agg2 Try.underlying24 (by kernel_rfl) (by kernel_rfl) (hval 2 24 v2 rfl rfl) h2
  obtain ⟨c0, e20, rfl, wc0⟩ := DataW.trod_int Try.underlying3 hy20
  simp only [List.cons.injEq, and_true] at e20
  subst e20
  obtain ⟨c1, e21, rfl, wc1⟩ := DataW.trod_int Try.underlying3 hy21
  simp only [List.cons.injEq, and_true] at e21
  subst e21
  clear hA0 hval0
  refine (sums_walk a0 a1 b0 b1 c0 c1 wa0 wa1 wb0 wb1 wc0 wc1 W).mono fun e W' ⟨he, hb⟩ => ?_
  subst he
  exact ⟨_, rfl, law_post (B := 4) laidOut (by rw [Try.params7]; simp only [List.mem_cons, List.not_mem_nil, or_false, forall_eq_or_imp, forall_eq]; first | exact readable_ratioSums | (repeat' apply And.intro) <;> first | exact of_decide_eq_true (by kernel_rfl) | kernel_rfl) rfl Try.underlying4 rfl rfl hW' hb⟩

theorem ratioSums_over : Rows.ratioSumsRow.holds Try.pinned (OpenSpec.ofChange Rows.ratioSumsSpec) :=
  OpenClaim.holds_of_wide 7 Try.f7 rfl rfl rfl rfl rfl rfl rfl ⟨rfl, rfl, rfl, rfl, rfl⟩ rfl rfl rfl rfl rfl (by kernel_rfl) Try.func7 (by kernel_rfl)
    (of_decide_eq_true (by kernel_rfl)) (by unfold Func.isWrapper; first | (rw [if_pos (by decide +kernel)]; kernel_rfl) | (rw [if_neg (by decide +kernel)]; exact ⟨rfl, rfl⟩))
    (fun os started H enc _ => ratioSums_lifted os started H enc)

theorem ratioSums_holds : Rows.RatioSumsSaid := ratioSums_over
#print axioms ratioSums_holds
end Go.Proofs.Ytmndiejojlmblaa
