/-
  RatioProducts: the order of a product plays no part; 1 changes nothing, 0 gives 0; a product with a sum is the sum of the products, as long as all these results exist.
  No condition: for every input.
-/
import Derived.Test.YtmndiejojlmblaaRatS
import Derived.Test.YtmndiejojlmblaaLaw
import Derived.Deep.DeepCutAuto
namespace Go.Proofs.Ytmndiejojlmblaa
set_option linter.unusedSimpArgs false
set_option linter.unusedVariables false
open Go.ChangeShapes Go.WideShapes Go.ChangeAt Go.RowKit

attribute [local go_sem ↓] eql_rat neq_rat


theorem bsize {W w1 : World} (hb : Below W.heap.size W w1) : ∀ b, b < W.heap.size → b < w1.heap.size := fun b h => Nat.lt_of_lt_of_le h hb.size
theorem Row.set2 {w : World} {b : Nat} {x0 x1 : Value} (h : Row w b [x0, x1]) (v0 v1 : Value) : Row ((w.setCell ⟨b, 0, none⟩ v0).setCell ⟨b, 1, none⟩ v1) b [v0, v1] := by
  obtain ⟨T, h⟩ := h
  refine ⟨T, ?_⟩
  simp [World.setCell, Array.getElem?_modify, h]
theorem one_vld : vldP 1 1 := by decide +kernel
theorem zero_vld : vldP 0 1 := by decide +kernel

set_option maxRecDepth 100000 in
set_option maxHeartbeats 4000000 in
theorem products_walk (a0 a1 b0 b1 c0 c1 : Int) (_ : (Lit.int .i64 a0).wf = true) (_ : (Lit.int .i64 a1).wf = true) (_ : (Lit.int .i64 b0).wf = true) (_ : (Lit.int .i64 b1).wf = true) (_ : (Lit.int .i64 c0).wf = true) (_ : (Lit.int .i64 c1).wf = true) (w : World) :
    Calls Try.prog 4 #[.agg #[.int .i64 a0, .int .i64 a1], .agg #[.int .i64 b0, .int .i64 b1], .agg #[.int .i64 c0, .int .i64 c1]] w fun e w' => e = .returned (.bool true) ∧ Below w.heap.size w w' := by
  by_cases va : vldP a0 a1
  · have ea := vld_true va
    by_cases vb : vldP b0 b1
    · have eb := vld_true vb
      by_cases vc : vldP c0 c1
      · have ec := vld_true vc
        have k1 : fitN (b0 * a0) (b1 * a1) = fitN (a0 * b0) (a1 * b1) := by rw [Int.mul_comm b0, Int.mul_comm b1]
        have k2 : fitD (b0 * a0) (b1 * a1) = fitD (a0 * b0) (a1 * b1) := by rw [Int.mul_comm b0, Int.mul_comm b1]
        have k3 : fitE (b0 * a0) (b1 * a1) = fitE (a0 * b0) (a1 * b1) := by rw [Int.mul_comm b0, Int.mul_comm b1]
        obtain ⟨k4, k5, k6⟩ := fit_vld va
        have k7 : fitN 0 a1 = 0 ∧ fitD 0 a1 = 1 ∧ fitE 0 a1 = 0 := fit_cross (by have := va.1; omega) (by omega) (by decide +kernel) (by omega)
        obtain ⟨k7, k8, k9⟩ := k7
        go_enter Try.func4, Try.ntmps4
        go_wp2_with fail
        refine (head_any _).mono ?_
        rintro e w1 ⟨rfl, hb1⟩
        have Ra1 : Row w1 w.heap.size [.int .i64 a0, .int .i64 a1] := by (repeat' (first | (with_reducible assumption) | (with_reducible refine Row.new' _ _ _ (by first | rfl | (simp; done) | omega)) | (with_reducible refine Row.alloc ?_ _) | (with_reducible refine Row.drew ?_) | (with_reducible refine Row.drewN ?_ _) | (with_reducible refine Row.step ?_ (by with_reducible assumption))))
        have Rb1 : Row w1 (w.heap.size + 1) [.int .i64 b0, .int .i64 b1] := by (repeat' (first | (with_reducible assumption) | (with_reducible refine Row.new' _ _ _ (by first | rfl | (simp; done) | omega)) | (with_reducible refine Row.alloc ?_ _) | (with_reducible refine Row.drew ?_) | (with_reducible refine Row.drewN ?_ _) | (with_reducible refine Row.step ?_ (by with_reducible assumption))))
        have Rc1 : Row w1 (w.heap.size + 1 + 1) [.int .i64 c0, .int .i64 c1] := by (repeat' (first | (with_reducible assumption) | (with_reducible refine Row.new' _ _ _ (by first | rfl | (simp; done) | omega)) | (with_reducible refine Row.alloc ?_ _) | (with_reducible refine Row.drew ?_) | (with_reducible refine Row.drewN ?_ _) | (with_reducible refine Row.step ?_ (by with_reducible assumption))))
        have ca01 := Ra1.cell 0 rfl
        have ca11 := Ra1.cell 1 rfl
        have cb01 := Rb1.cell 0 rfl
        have cb11 := Rb1.cell 1 rfl
        have cc01 := Rc1.cell 0 rfl
        have cc11 := Rc1.cell 1 rfl
        have la1 := Ra1.lt
        have lb1 := Rb1.lt
        have lc1 := Rc1.lt
        go_wp2_with fail
        refine (R_valid_any _ _ _).mono ?_
        rintro e w2 ⟨rfl, hb2⟩
        have Ra2 : Row w2 w.heap.size [.int .i64 a0, .int .i64 a1] := by (repeat' (first | (with_reducible assumption) | (with_reducible refine Row.new' _ _ _ (by first | rfl | (simp; done) | omega)) | (with_reducible refine Row.alloc ?_ _) | (with_reducible refine Row.drew ?_) | (with_reducible refine Row.drewN ?_ _) | (with_reducible refine Row.step ?_ (by with_reducible assumption))))
        have Rb2 : Row w2 (w.heap.size + 1) [.int .i64 b0, .int .i64 b1] := by (repeat' (first | (with_reducible assumption) | (with_reducible refine Row.new' _ _ _ (by first | rfl | (simp; done) | omega)) | (with_reducible refine Row.alloc ?_ _) | (with_reducible refine Row.drew ?_) | (with_reducible refine Row.drewN ?_ _) | (with_reducible refine Row.step ?_ (by with_reducible assumption))))
        have Rc2 : Row w2 (w.heap.size + 1 + 1) [.int .i64 c0, .int .i64 c1] := by (repeat' (first | (with_reducible assumption) | (with_reducible refine Row.new' _ _ _ (by first | rfl | (simp; done) | omega)) | (with_reducible refine Row.alloc ?_ _) | (with_reducible refine Row.drew ?_) | (with_reducible refine Row.drewN ?_ _) | (with_reducible refine Row.step ?_ (by with_reducible assumption))))
        have ca02 := Ra2.cell 0 rfl
        have ca12 := Ra2.cell 1 rfl
        have cb02 := Rb2.cell 0 rfl
        have cb12 := Rb2.cell 1 rfl
        have cc02 := Rc2.cell 0 rfl
        have cc12 := Rc2.cell 1 rfl
        have la2 := Ra2.lt
        have lb2 := Rb2.lt
        have lc2 := Rc2.lt
        go_wp2_with fail
        refine (R_valid_any _ _ _).mono ?_
        rintro e w3 ⟨rfl, hb3⟩
        have Ra3 : Row w3 w.heap.size [.int .i64 a0, .int .i64 a1] := by (repeat' (first | (with_reducible assumption) | (with_reducible refine Row.new' _ _ _ (by first | rfl | (simp; done) | omega)) | (with_reducible refine Row.alloc ?_ _) | (with_reducible refine Row.drew ?_) | (with_reducible refine Row.drewN ?_ _) | (with_reducible refine Row.step ?_ (by with_reducible assumption))))
        have Rb3 : Row w3 (w.heap.size + 1) [.int .i64 b0, .int .i64 b1] := by (repeat' (first | (with_reducible assumption) | (with_reducible refine Row.new' _ _ _ (by first | rfl | (simp; done) | omega)) | (with_reducible refine Row.alloc ?_ _) | (with_reducible refine Row.drew ?_) | (with_reducible refine Row.drewN ?_ _) | (with_reducible refine Row.step ?_ (by with_reducible assumption))))
        have Rc3 : Row w3 (w.heap.size + 1 + 1) [.int .i64 c0, .int .i64 c1] := by (repeat' (first | (with_reducible assumption) | (with_reducible refine Row.new' _ _ _ (by first | rfl | (simp; done) | omega)) | (with_reducible refine Row.alloc ?_ _) | (with_reducible refine Row.drew ?_) | (with_reducible refine Row.drewN ?_ _) | (with_reducible refine Row.step ?_ (by with_reducible assumption))))
        have ca03 := Ra3.cell 0 rfl
        have ca13 := Ra3.cell 1 rfl
        have cb03 := Rb3.cell 0 rfl
        have cb13 := Rb3.cell 1 rfl
        have cc03 := Rc3.cell 0 rfl
        have cc13 := Rc3.cell 1 rfl
        have la3 := Ra3.lt
        have lb3 := Rb3.lt
        have lc3 := Rc3.lt
        go_wp2_with fail
        refine (R_valid_any _ _ _).mono ?_
        rintro e w4 ⟨rfl, hb4⟩
        have Ra4 : Row w4 w.heap.size [.int .i64 a0, .int .i64 a1] := by (repeat' (first | (with_reducible assumption) | (with_reducible refine Row.new' _ _ _ (by first | rfl | (simp; done) | omega)) | (with_reducible refine Row.alloc ?_ _) | (with_reducible refine Row.drew ?_) | (with_reducible refine Row.drewN ?_ _) | (with_reducible refine Row.step ?_ (by with_reducible assumption))))
        have Rb4 : Row w4 (w.heap.size + 1) [.int .i64 b0, .int .i64 b1] := by (repeat' (first | (with_reducible assumption) | (with_reducible refine Row.new' _ _ _ (by first | rfl | (simp; done) | omega)) | (with_reducible refine Row.alloc ?_ _) | (with_reducible refine Row.drew ?_) | (with_reducible refine Row.drewN ?_ _) | (with_reducible refine Row.step ?_ (by with_reducible assumption))))
        have Rc4 : Row w4 (w.heap.size + 1 + 1) [.int .i64 c0, .int .i64 c1] := by (repeat' (first | (with_reducible assumption) | (with_reducible refine Row.new' _ _ _ (by first | rfl | (simp; done) | omega)) | (with_reducible refine Row.alloc ?_ _) | (with_reducible refine Row.drew ?_) | (with_reducible refine Row.drewN ?_ _) | (with_reducible refine Row.step ?_ (by with_reducible assumption))))
        have ca04 := Ra4.cell 0 rfl
        have ca14 := Ra4.cell 1 rfl
        have cb04 := Rb4.cell 0 rfl
        have cb14 := Rb4.cell 1 rfl
        have cc04 := Rc4.cell 0 rfl
        have cc14 := Rc4.cell 1 rfl
        have la4 := Ra4.lt
        have lb4 := Rb4.lt
        have lc4 := Rc4.lt
        go_wp2_with fail
        refine (Mul_v _ _ _ _ _ va vb).mono ?_
        rintro e w5 ⟨rfl, hb5⟩
        have Ra5 : Row w5 w.heap.size [.int .i64 a0, .int .i64 a1] := by (repeat' (first | (with_reducible assumption) | (with_reducible refine Row.new' _ _ _ (by first | rfl | (simp; done) | omega)) | (with_reducible refine Row.alloc ?_ _) | (with_reducible refine Row.drew ?_) | (with_reducible refine Row.drewN ?_ _) | (with_reducible refine Row.step ?_ (by with_reducible assumption))))
        have Rb5 : Row w5 (w.heap.size + 1) [.int .i64 b0, .int .i64 b1] := by (repeat' (first | (with_reducible assumption) | (with_reducible refine Row.new' _ _ _ (by first | rfl | (simp; done) | omega)) | (with_reducible refine Row.alloc ?_ _) | (with_reducible refine Row.drew ?_) | (with_reducible refine Row.drewN ?_ _) | (with_reducible refine Row.step ?_ (by with_reducible assumption))))
        have Rc5 : Row w5 (w.heap.size + 1 + 1) [.int .i64 c0, .int .i64 c1] := by (repeat' (first | (with_reducible assumption) | (with_reducible refine Row.new' _ _ _ (by first | rfl | (simp; done) | omega)) | (with_reducible refine Row.alloc ?_ _) | (with_reducible refine Row.drew ?_) | (with_reducible refine Row.drewN ?_ _) | (with_reducible refine Row.step ?_ (by with_reducible assumption))))
        have ca05 := Ra5.cell 0 rfl
        have ca15 := Ra5.cell 1 rfl
        have cb05 := Rb5.cell 0 rfl
        have cb15 := Rb5.cell 1 rfl
        have cc05 := Rc5.cell 0 rfl
        have cc15 := Rc5.cell 1 rfl
        have la5 := Ra5.lt
        have lb5 := Rb5.lt
        have lc5 := Rc5.lt
        go_wp2_with fail
        refine (Mul_v _ _ _ _ _ vb va).mono ?_
        rintro e w6 ⟨rfl, hb6⟩
        have Ra6 : Row w6 w.heap.size [.int .i64 a0, .int .i64 a1] := by (repeat' (first | (with_reducible assumption) | (with_reducible refine Row.new' _ _ _ (by first | rfl | (simp; done) | omega)) | (with_reducible refine Row.alloc ?_ _) | (with_reducible refine Row.drew ?_) | (with_reducible refine Row.drewN ?_ _) | (with_reducible refine Row.step ?_ (by with_reducible assumption))))
        have Rb6 : Row w6 (w.heap.size + 1) [.int .i64 b0, .int .i64 b1] := by (repeat' (first | (with_reducible assumption) | (with_reducible refine Row.new' _ _ _ (by first | rfl | (simp; done) | omega)) | (with_reducible refine Row.alloc ?_ _) | (with_reducible refine Row.drew ?_) | (with_reducible refine Row.drewN ?_ _) | (with_reducible refine Row.step ?_ (by with_reducible assumption))))
        have Rc6 : Row w6 (w.heap.size + 1 + 1) [.int .i64 c0, .int .i64 c1] := by (repeat' (first | (with_reducible assumption) | (with_reducible refine Row.new' _ _ _ (by first | rfl | (simp; done) | omega)) | (with_reducible refine Row.alloc ?_ _) | (with_reducible refine Row.drew ?_) | (with_reducible refine Row.drewN ?_ _) | (with_reducible refine Row.step ?_ (by with_reducible assumption))))
        have ca06 := Ra6.cell 0 rfl
        have ca16 := Ra6.cell 1 rfl
        have cb06 := Rb6.cell 0 rfl
        have cb16 := Rb6.cell 1 rfl
        have cc06 := Rc6.cell 0 rfl
        have cc16 := Rc6.cell 1 rfl
        have la6 := Ra6.lt
        have lb6 := Rb6.lt
        have lc6 := Rc6.lt
        go_wp2_with fail
        have Rx6 : Row w6 w5.heap.size [.int .i64 (fitN (a0 * b0) (a1 * b1)), .int .i64 (fitD (a0 * b0) (a1 * b1))] := by (repeat' (first | (with_reducible assumption) | (with_reducible refine Row.new' _ _ _ (by first | rfl | (simp; done) | omega)) | (with_reducible refine Row.alloc ?_ _) | (with_reducible refine Row.drew ?_) | (with_reducible refine Row.drewN ?_ _) | (with_reducible refine Row.step ?_ (by with_reducible assumption))))
        have hB6 : Below w.heap.size w w6 := by (repeat' (first | (with_reducible exact Below.refl _ _) | (with_reducible assumption) | (with_reducible exact Bw.out (by with_reducible assumption)) | (with_reducible refine bw_alloc ?_ _) | (with_reducible refine bw_step ?_ (by with_reducible assumption)) | (with_reducible refine Below.alloc ?_ ?_ _) | (with_reducible refine Below.drew ?_) | (with_reducible refine below_drewN ?_ _) | (with_reducible refine Below.setCell ?_ ?_ _) | (with_reducible refine below_step ?_ (by with_reducible assumption) ?_) | (with_reducible exact Nat.le_refl _) | omega | (simp; omega) | (simp; done)))
        have lx6 := Rx6.lt
        have Ry6 : Row (w6.alloc (.cells #[.int .i64 (fitN (a0 * b0) (a1 * b1)), .int .i64 (fitD (a0 * b0) (a1 * b1))] 24)) w6.heap.size [.int .i64 (fitN (a0 * b0) (a1 * b1)), .int .i64 (fitD (a0 * b0) (a1 * b1))] := by (repeat' (first | (with_reducible assumption) | (with_reducible refine Row.new' _ _ _ (by first | rfl | (simp; done) | omega)) | (with_reducible refine Row.alloc ?_ _) | (with_reducible refine Row.drew ?_) | (with_reducible refine Row.drewN ?_ _) | (with_reducible refine Row.step ?_ (by with_reducible assumption)) | (with_reducible refine Row.other ?_ (by first | omega | (simp; done) | (simp; omega)) _)))
        go_cut [12, 13] (fun s1 s2 wx => ∃ g : Nat, s1 = .pointer (some ⟨g, 0, none⟩) ∧ s2 = .int .i64 0 ∧ Row wx g [.int .i64 a0, .int .i64 a1] ∧ Row wx w.heap.size [.int .i64 a0, .int .i64 a1] ∧
            Row wx (w.heap.size + 1) [.int .i64 b0, .int .i64 b1] ∧ Row wx (w.heap.size + 1 + 1) [.int .i64 c0, .int .i64 c1] ∧ Row wx w5.heap.size [.int .i64 (fitN (a0 * b0) (a1 * b1)), .int .i64 (fitD (a0 * b0) (a1 * b1))] ∧ Row wx w6.heap.size [.int .i64 (fitN (a0 * b0) (a1 * b1)), .int .i64 (fitD (a0 * b0) (a1 * b1))]  ∧ Bw w.heap.size w wx)
        case first =>
          go_region_held3 (fun w' => w'.cell? ⟨w.heap.size, 0, none⟩ = some (.int .i64 a0) ∧ w'.cell? ⟨w.heap.size, 1, none⟩ = some (.int .i64 a1) ∧ Row w' w.heap.size [.int .i64 a0, .int .i64 a1] ∧
              Row w' (w.heap.size + 1) [.int .i64 b0, .int .i64 b1] ∧ Row w' (w.heap.size + 1 + 1) [.int .i64 c0, .int .i64 c1] ∧ Row w' w5.heap.size [.int .i64 (fitN (a0 * b0) (a1 * b1)), .int .i64 (fitD (a0 * b0) (a1 * b1))] ∧
              Row w' w6.heap.size [.int .i64 (fitN (a0 * b0) (a1 * b1)), .int .i64 (fitD (a0 * b0) (a1 * b1))]  ∧ Bw w.heap.size w w')
            (((try go_split_ands); exact ⟨Row.cell (cs := [.int .i64 a0, .int .i64 a1]) (by (repeat' (first | (with_reducible assumption) | (with_reducible refine Row.new' _ _ _ (by first | rfl | (simp; done) | omega)) | (with_reducible refine Row.alloc ?_ _) | (with_reducible refine Row.drew ?_) | (with_reducible refine Row.drewN ?_ _) | (with_reducible refine Row.step ?_ (by with_reducible assumption)) | (with_reducible refine Row.other ?_ (by first | omega | (simp; done) | (simp; omega)) _)))) 0 rfl, Row.cell (cs := [.int .i64 a0, .int .i64 a1]) (by (repeat' (first | (with_reducible assumption) | (with_reducible refine Row.new' _ _ _ (by first | rfl | (simp; done) | omega)) | (with_reducible refine Row.alloc ?_ _) | (with_reducible refine Row.drew ?_) | (with_reducible refine Row.drewN ?_ _) | (with_reducible refine Row.step ?_ (by with_reducible assumption)) | (with_reducible refine Row.other ?_ (by first | omega | (simp; done) | (simp; omega)) _)))) 1 rfl, by (repeat' (first | (with_reducible assumption) | (with_reducible refine Row.new' _ _ _ (by first | rfl | (simp; done) | omega)) | (with_reducible refine Row.alloc ?_ _) | (with_reducible refine Row.drew ?_) | (with_reducible refine Row.drewN ?_ _) | (with_reducible refine Row.step ?_ (by with_reducible assumption)) | (with_reducible refine Row.other ?_ (by first | omega | (simp; done) | (simp; omega)) _))), by (repeat' (first | (with_reducible assumption) | (with_reducible refine Row.new' _ _ _ (by first | rfl | (simp; done) | omega)) | (with_reducible refine Row.alloc ?_ _) | (with_reducible refine Row.drew ?_) | (with_reducible refine Row.drewN ?_ _) | (with_reducible refine Row.step ?_ (by with_reducible assumption)) | (with_reducible refine Row.other ?_ (by first | omega | (simp; done) | (simp; omega)) _))), by (repeat' (first | (with_reducible assumption) | (with_reducible refine Row.new' _ _ _ (by first | rfl | (simp; done) | omega)) | (with_reducible refine Row.alloc ?_ _) | (with_reducible refine Row.drew ?_) | (with_reducible refine Row.drewN ?_ _) | (with_reducible refine Row.step ?_ (by with_reducible assumption)) | (with_reducible refine Row.other ?_ (by first | omega | (simp; done) | (simp; omega)) _))), by (repeat' (first | (with_reducible assumption) | (with_reducible refine Row.new' _ _ _ (by first | rfl | (simp; done) | omega)) | (with_reducible refine Row.alloc ?_ _) | (with_reducible refine Row.drew ?_) | (with_reducible refine Row.drewN ?_ _) | (with_reducible refine Row.step ?_ (by with_reducible assumption)) | (with_reducible refine Row.other ?_ (by first | omega | (simp; done) | (simp; omega)) _))), by (repeat' (first | (with_reducible assumption) | (with_reducible refine Row.new' _ _ _ (by first | rfl | (simp; done) | omega)) | (with_reducible refine Row.alloc ?_ _) | (with_reducible refine Row.drew ?_) | (with_reducible refine Row.drewN ?_ _) | (with_reducible refine Row.step ?_ (by with_reducible assumption)) | (with_reducible refine Row.other ?_ (by first | omega | (simp; done) | (simp; omega)) _))),  (by (repeat' (first | (with_reducible exact Below.refl _ _) | (with_reducible assumption) | (with_reducible exact Bw.out (by with_reducible assumption)) | (with_reducible refine bw_alloc ?_ _) | (with_reducible refine bw_step ?_ (by with_reducible assumption)) | (with_reducible refine Below.alloc ?_ ?_ _) | (with_reducible refine Below.drew ?_) | (with_reducible refine below_drewN ?_ _) | (with_reducible refine Below.setCell ?_ ?_ _) | (with_reducible refine below_step ?_ (by with_reducible assumption) ?_) | (with_reducible exact Nat.le_refl _) | omega | (simp; omega) | (simp; done))) : Below _ _ _)⟩))
            (first | (go_at_call 14; (with_reducible refine (law_rat_any _ _ _).mono ?_); rintro e wx ⟨rfl, hbx⟩; obtain ⟨hcx, hzx⟩ := bcell hbx; have hsx := hbx.size; (try simp at hsx); have hsy := bsize hbx) | (go_at_call 13; (with_reducible refine (Mul_v _ _ _ _ _ va one_vld).mono ?_); rintro e wx ⟨rfl, hbx⟩; obtain ⟨hcx, hzx⟩ := bcell hbx; have hsx := hbx.size; (try simp at hsx); have hsy := bsize hbx))
          all_goals
            rename_i hH
            obtain ⟨_, _, hHa, hHb, hHc, hHx, hHy,  hHB⟩ := hH
            go_wp2_with fail
            go_meet
            exact ⟨_, rfl, rfl, by first | (with_reducible exact Row.new' _ _ _ (by simp)) | (refine Row.set2 (x0 := .int .i64 0) (x1 := .int .i64 0) ?_ _ _; (repeat' (first | (with_reducible assumption) | (with_reducible refine Row.new' _ _ _ (by first | rfl | (simp; done) | omega)) | (with_reducible refine Row.alloc ?_ _) | (with_reducible refine Row.drew ?_) | (with_reducible refine Row.drewN ?_ _) | (with_reducible refine Row.step ?_ (by with_reducible assumption)) | (with_reducible refine Row.other ?_ (by first | omega | (simp; done) | (simp; omega)) _)))), hHa, hHb, hHc, hHx, hHy,  hHB⟩
        case rest =>
          obtain ⟨g1, rfl, rfl, Rg, Ra, Rb, Rc, Rx, Ry, HB⟩ := hcut
          obtain ⟨wd, hwd⟩ : ∃ wd, wd = wc := ⟨_, rfl⟩
          subst hwd
          have HB' := HB.out
          have ca0 := Ra.cell 0 rfl
          have ca1 := Ra.cell 1 rfl
          have la := Ra.lt
          have lb := Rb.lt
          have lc := Rc.lt
          have lx := Rx.lt
          have ly := Ry.lt
          have lg := Rg.lt
          go_wp2_with fail
          go_cut [14, 15] (fun s1 s2 wx => ∃ g : Nat, s1 = .pointer (some ⟨g, 0, none⟩) ∧ s2 = .int .i64 0 ∧ Row wx g [.int .i64 0, .int .i64 1] ∧ Row wx w.heap.size [.int .i64 a0, .int .i64 a1] ∧
              Row wx (w.heap.size + 1) [.int .i64 b0, .int .i64 b1] ∧ Row wx (w.heap.size + 1 + 1) [.int .i64 c0, .int .i64 c1] ∧ Row wx w5.heap.size [.int .i64 (fitN (a0 * b0) (a1 * b1)), .int .i64 (fitD (a0 * b0) (a1 * b1))] ∧ Row wx w6.heap.size [.int .i64 (fitN (a0 * b0) (a1 * b1)), .int .i64 (fitD (a0 * b0) (a1 * b1))] ∧ Row wx g1 [.int .i64 a0, .int .i64 a1] ∧ Bw w.heap.size w wx)
          case first =>
            go_region_held3 (fun w' => w'.cell? ⟨w.heap.size, 0, none⟩ = some (.int .i64 a0) ∧ w'.cell? ⟨w.heap.size, 1, none⟩ = some (.int .i64 a1) ∧ Row w' w.heap.size [.int .i64 a0, .int .i64 a1] ∧
                Row w' (w.heap.size + 1) [.int .i64 b0, .int .i64 b1] ∧ Row w' (w.heap.size + 1 + 1) [.int .i64 c0, .int .i64 c1] ∧ Row w' w5.heap.size [.int .i64 (fitN (a0 * b0) (a1 * b1)), .int .i64 (fitD (a0 * b0) (a1 * b1))] ∧
                Row w' w6.heap.size [.int .i64 (fitN (a0 * b0) (a1 * b1)), .int .i64 (fitD (a0 * b0) (a1 * b1))] ∧ Row w' g1 [.int .i64 a0, .int .i64 a1] ∧ Bw w.heap.size w w')
              (((try go_split_ands); exact ⟨Row.cell (cs := [.int .i64 a0, .int .i64 a1]) (by (repeat' (first | (with_reducible assumption) | (with_reducible refine Row.new' _ _ _ (by first | rfl | (simp; done) | omega)) | (with_reducible refine Row.alloc ?_ _) | (with_reducible refine Row.drew ?_) | (with_reducible refine Row.drewN ?_ _) | (with_reducible refine Row.step ?_ (by with_reducible assumption)) | (with_reducible refine Row.other ?_ (by first | omega | (simp; done) | (simp; omega)) _)))) 0 rfl, Row.cell (cs := [.int .i64 a0, .int .i64 a1]) (by (repeat' (first | (with_reducible assumption) | (with_reducible refine Row.new' _ _ _ (by first | rfl | (simp; done) | omega)) | (with_reducible refine Row.alloc ?_ _) | (with_reducible refine Row.drew ?_) | (with_reducible refine Row.drewN ?_ _) | (with_reducible refine Row.step ?_ (by with_reducible assumption)) | (with_reducible refine Row.other ?_ (by first | omega | (simp; done) | (simp; omega)) _)))) 1 rfl, by (repeat' (first | (with_reducible assumption) | (with_reducible refine Row.new' _ _ _ (by first | rfl | (simp; done) | omega)) | (with_reducible refine Row.alloc ?_ _) | (with_reducible refine Row.drew ?_) | (with_reducible refine Row.drewN ?_ _) | (with_reducible refine Row.step ?_ (by with_reducible assumption)) | (with_reducible refine Row.other ?_ (by first | omega | (simp; done) | (simp; omega)) _))), by (repeat' (first | (with_reducible assumption) | (with_reducible refine Row.new' _ _ _ (by first | rfl | (simp; done) | omega)) | (with_reducible refine Row.alloc ?_ _) | (with_reducible refine Row.drew ?_) | (with_reducible refine Row.drewN ?_ _) | (with_reducible refine Row.step ?_ (by with_reducible assumption)) | (with_reducible refine Row.other ?_ (by first | omega | (simp; done) | (simp; omega)) _))), by (repeat' (first | (with_reducible assumption) | (with_reducible refine Row.new' _ _ _ (by first | rfl | (simp; done) | omega)) | (with_reducible refine Row.alloc ?_ _) | (with_reducible refine Row.drew ?_) | (with_reducible refine Row.drewN ?_ _) | (with_reducible refine Row.step ?_ (by with_reducible assumption)) | (with_reducible refine Row.other ?_ (by first | omega | (simp; done) | (simp; omega)) _))), by (repeat' (first | (with_reducible assumption) | (with_reducible refine Row.new' _ _ _ (by first | rfl | (simp; done) | omega)) | (with_reducible refine Row.alloc ?_ _) | (with_reducible refine Row.drew ?_) | (with_reducible refine Row.drewN ?_ _) | (with_reducible refine Row.step ?_ (by with_reducible assumption)) | (with_reducible refine Row.other ?_ (by first | omega | (simp; done) | (simp; omega)) _))), by (repeat' (first | (with_reducible assumption) | (with_reducible refine Row.new' _ _ _ (by first | rfl | (simp; done) | omega)) | (with_reducible refine Row.alloc ?_ _) | (with_reducible refine Row.drew ?_) | (with_reducible refine Row.drewN ?_ _) | (with_reducible refine Row.step ?_ (by with_reducible assumption)) | (with_reducible refine Row.other ?_ (by first | omega | (simp; done) | (simp; omega)) _))), by (repeat' (first | (with_reducible assumption) | (with_reducible refine Row.new' _ _ _ (by first | rfl | (simp; done) | omega)) | (with_reducible refine Row.alloc ?_ _) | (with_reducible refine Row.drew ?_) | (with_reducible refine Row.drewN ?_ _) | (with_reducible refine Row.step ?_ (by with_reducible assumption)) | (with_reducible refine Row.other ?_ (by first | omega | (simp; done) | (simp; omega)) _))), (by (repeat' (first | (with_reducible exact Below.refl _ _) | (with_reducible assumption) | (with_reducible exact Bw.out (by with_reducible assumption)) | (with_reducible refine bw_alloc ?_ _) | (with_reducible refine bw_step ?_ (by with_reducible assumption)) | (with_reducible refine Below.alloc ?_ ?_ _) | (with_reducible refine Below.drew ?_) | (with_reducible refine below_drewN ?_ _) | (with_reducible refine Below.setCell ?_ ?_ _) | (with_reducible refine below_step ?_ (by with_reducible assumption) ?_) | (with_reducible exact Nat.le_refl _) | omega | (simp; omega) | (simp; done))) : Below _ _ _)⟩))
              (first | (go_at_call 14; (with_reducible refine (law_rat_any _ _ _).mono ?_); rintro e wx ⟨rfl, hbx⟩; obtain ⟨hcx, hzx⟩ := bcell hbx; have hsx := hbx.size; (try simp at hsx); have hsy := bsize hbx) | (go_at_call 13; (with_reducible refine (Mul_v _ _ _ _ _ va zero_vld).mono ?_); rintro e wx ⟨rfl, hbx⟩; obtain ⟨hcx, hzx⟩ := bcell hbx; have hsx := hbx.size; (try simp at hsx); have hsy := bsize hbx))
            all_goals
              rename_i hH
              obtain ⟨_, _, hHa, hHb, hHc, hHx, hHy, hHg, hHB⟩ := hH
              go_wp2_with fail
              go_meet
              exact ⟨_, rfl, rfl, by first | (with_reducible exact Row.new' _ _ _ (by simp)) | (refine Row.set2 (x0 := .int .i64 0) (x1 := .int .i64 0) ?_ _ _; (repeat' (first | (with_reducible assumption) | (with_reducible refine Row.new' _ _ _ (by first | rfl | (simp; done) | omega)) | (with_reducible refine Row.alloc ?_ _) | (with_reducible refine Row.drew ?_) | (with_reducible refine Row.drewN ?_ _) | (with_reducible refine Row.step ?_ (by with_reducible assumption)) | (with_reducible refine Row.other ?_ (by first | omega | (simp; done) | (simp; omega)) _)))), hHa, hHb, hHc, hHx, hHy, hHg, hHB⟩
          case rest =>
            obtain ⟨g2, rfl, rfl, Rh, Ra, Rb, Rc, Rx, Ry, Rg, HB⟩ := hcut
            have HB' := HB.out
            have ca0 := Ra.cell 0 rfl
            have ca1 := Ra.cell 1 rfl
            have cx0 := Rx.cell 0 rfl
            have cx1 := Rx.cell 1 rfl
            have cy0 := Ry.cell 0 rfl
            have cy1 := Ry.cell 1 rfl
            have cg0 := Rg.cell 0 rfl
            have cg1 := Rg.cell 1 rfl
            have ch0 := Rh.cell 0 rfl
            have ch1 := Rh.cell 1 rfl
            have la := Ra.lt
            have lx := Rx.lt
            have lb := Rb.lt
            have lc := Rc.lt
            have ly := Ry.lt
            have lg := Rg.lt
            have lh := Rh.lt
            go_wp2_with fail
            go_cut [88] (fun s1 wx => s1 = .bool false ∧ Row wx w.heap.size [.int .i64 a0, .int .i64 a1] ∧ Row wx (w.heap.size + 1) [.int .i64 b0, .int .i64 b1] ∧ Row wx (w.heap.size + 1 + 1) [.int .i64 c0, .int .i64 c1] ∧ Row wx w5.heap.size [.int .i64 (fitN (a0 * b0) (a1 * b1)), .int .i64 (fitD (a0 * b0) (a1 * b1))] ∧ Bw w.heap.size w wx)
            case first =>
              go_region_held3 (fun w' => w'.cell? ⟨w.heap.size, 0, none⟩ = some (.int .i64 a0) ∧ w'.cell? ⟨w.heap.size, 1, none⟩ = some (.int .i64 a1) ∧ w'.cell? ⟨w5.heap.size, 0, none⟩ = some (.int .i64 (fitN (a0 * b0) (a1 * b1))) ∧ w'.cell? ⟨w5.heap.size, 1, none⟩ = some (.int .i64 (fitD (a0 * b0) (a1 * b1))) ∧
                  w'.cell? ⟨w6.heap.size, 0, none⟩ = some (.int .i64 (fitN (a0 * b0) (a1 * b1))) ∧ w'.cell? ⟨w6.heap.size, 1, none⟩ = some (.int .i64 (fitD (a0 * b0) (a1 * b1))) ∧ w'.cell? ⟨g1, 0, none⟩ = some (.int .i64 a0) ∧ w'.cell? ⟨g1, 1, none⟩ = some (.int .i64 a1) ∧
                  w'.cell? ⟨g2, 0, none⟩ = some (.int .i64 0) ∧ w'.cell? ⟨g2, 1, none⟩ = some (.int .i64 1) ∧
                  Row w' w.heap.size [.int .i64 a0, .int .i64 a1] ∧ Row w' (w.heap.size + 1) [.int .i64 b0, .int .i64 b1] ∧ Row w' (w.heap.size + 1 + 1) [.int .i64 c0, .int .i64 c1] ∧ Row w' w5.heap.size [.int .i64 (fitN (a0 * b0) (a1 * b1)), .int .i64 (fitD (a0 * b0) (a1 * b1))] ∧ Row w' w6.heap.size [.int .i64 (fitN (a0 * b0) (a1 * b1)), .int .i64 (fitD (a0 * b0) (a1 * b1))] ∧ Row w' g1 [.int .i64 a0, .int .i64 a1] ∧ Row w' g2 [.int .i64 0, .int .i64 1] ∧ Bw w.heap.size w w')
                (((try go_split_ands); exact ⟨Row.cell (cs := [.int .i64 a0, .int .i64 a1]) (by (repeat' (first | (with_reducible assumption) | (with_reducible refine Row.new' _ _ _ (by first | rfl | (simp; done) | omega)) | (with_reducible refine Row.alloc ?_ _) | (with_reducible refine Row.drew ?_) | (with_reducible refine Row.drewN ?_ _) | (with_reducible refine Row.step ?_ (by with_reducible assumption)) | (with_reducible refine Row.other ?_ (by first | omega | (simp; done) | (simp; omega)) _)))) 0 rfl, Row.cell (cs := [.int .i64 a0, .int .i64 a1]) (by (repeat' (first | (with_reducible assumption) | (with_reducible refine Row.new' _ _ _ (by first | rfl | (simp; done) | omega)) | (with_reducible refine Row.alloc ?_ _) | (with_reducible refine Row.drew ?_) | (with_reducible refine Row.drewN ?_ _) | (with_reducible refine Row.step ?_ (by with_reducible assumption)) | (with_reducible refine Row.other ?_ (by first | omega | (simp; done) | (simp; omega)) _)))) 1 rfl, Row.cell (cs := [.int .i64 (fitN (a0 * b0) (a1 * b1)), .int .i64 (fitD (a0 * b0) (a1 * b1))]) (by (repeat' (first | (with_reducible assumption) | (with_reducible refine Row.new' _ _ _ (by first | rfl | (simp; done) | omega)) | (with_reducible refine Row.alloc ?_ _) | (with_reducible refine Row.drew ?_) | (with_reducible refine Row.drewN ?_ _) | (with_reducible refine Row.step ?_ (by with_reducible assumption)) | (with_reducible refine Row.other ?_ (by first | omega | (simp; done) | (simp; omega)) _)))) 0 rfl, Row.cell (cs := [.int .i64 (fitN (a0 * b0) (a1 * b1)), .int .i64 (fitD (a0 * b0) (a1 * b1))]) (by (repeat' (first | (with_reducible assumption) | (with_reducible refine Row.new' _ _ _ (by first | rfl | (simp; done) | omega)) | (with_reducible refine Row.alloc ?_ _) | (with_reducible refine Row.drew ?_) | (with_reducible refine Row.drewN ?_ _) | (with_reducible refine Row.step ?_ (by with_reducible assumption)) | (with_reducible refine Row.other ?_ (by first | omega | (simp; done) | (simp; omega)) _)))) 1 rfl, Row.cell (cs := [.int .i64 (fitN (a0 * b0) (a1 * b1)), .int .i64 (fitD (a0 * b0) (a1 * b1))]) (by (repeat' (first | (with_reducible assumption) | (with_reducible refine Row.new' _ _ _ (by first | rfl | (simp; done) | omega)) | (with_reducible refine Row.alloc ?_ _) | (with_reducible refine Row.drew ?_) | (with_reducible refine Row.drewN ?_ _) | (with_reducible refine Row.step ?_ (by with_reducible assumption)) | (with_reducible refine Row.other ?_ (by first | omega | (simp; done) | (simp; omega)) _)))) 0 rfl, Row.cell (cs := [.int .i64 (fitN (a0 * b0) (a1 * b1)), .int .i64 (fitD (a0 * b0) (a1 * b1))]) (by (repeat' (first | (with_reducible assumption) | (with_reducible refine Row.new' _ _ _ (by first | rfl | (simp; done) | omega)) | (with_reducible refine Row.alloc ?_ _) | (with_reducible refine Row.drew ?_) | (with_reducible refine Row.drewN ?_ _) | (with_reducible refine Row.step ?_ (by with_reducible assumption)) | (with_reducible refine Row.other ?_ (by first | omega | (simp; done) | (simp; omega)) _)))) 1 rfl,
                  Row.cell (cs := [.int .i64 a0, .int .i64 a1]) (by (repeat' (first | (with_reducible assumption) | (with_reducible refine Row.new' _ _ _ (by first | rfl | (simp; done) | omega)) | (with_reducible refine Row.alloc ?_ _) | (with_reducible refine Row.drew ?_) | (with_reducible refine Row.drewN ?_ _) | (with_reducible refine Row.step ?_ (by with_reducible assumption)) | (with_reducible refine Row.other ?_ (by first | omega | (simp; done) | (simp; omega)) _)))) 0 rfl, Row.cell (cs := [.int .i64 a0, .int .i64 a1]) (by (repeat' (first | (with_reducible assumption) | (with_reducible refine Row.new' _ _ _ (by first | rfl | (simp; done) | omega)) | (with_reducible refine Row.alloc ?_ _) | (with_reducible refine Row.drew ?_) | (with_reducible refine Row.drewN ?_ _) | (with_reducible refine Row.step ?_ (by with_reducible assumption)) | (with_reducible refine Row.other ?_ (by first | omega | (simp; done) | (simp; omega)) _)))) 1 rfl, Row.cell (cs := [.int .i64 0, .int .i64 1]) (by (repeat' (first | (with_reducible assumption) | (with_reducible refine Row.new' _ _ _ (by first | rfl | (simp; done) | omega)) | (with_reducible refine Row.alloc ?_ _) | (with_reducible refine Row.drew ?_) | (with_reducible refine Row.drewN ?_ _) | (with_reducible refine Row.step ?_ (by with_reducible assumption)) | (with_reducible refine Row.other ?_ (by first | omega | (simp; done) | (simp; omega)) _)))) 0 rfl, Row.cell (cs := [.int .i64 0, .int .i64 1]) (by (repeat' (first | (with_reducible assumption) | (with_reducible refine Row.new' _ _ _ (by first | rfl | (simp; done) | omega)) | (with_reducible refine Row.alloc ?_ _) | (with_reducible refine Row.drew ?_) | (with_reducible refine Row.drewN ?_ _) | (with_reducible refine Row.step ?_ (by with_reducible assumption)) | (with_reducible refine Row.other ?_ (by first | omega | (simp; done) | (simp; omega)) _)))) 1 rfl,
                  by (repeat' (first | (with_reducible assumption) | (with_reducible refine Row.new' _ _ _ (by first | rfl | (simp; done) | omega)) | (with_reducible refine Row.alloc ?_ _) | (with_reducible refine Row.drew ?_) | (with_reducible refine Row.drewN ?_ _) | (with_reducible refine Row.step ?_ (by with_reducible assumption)) | (with_reducible refine Row.other ?_ (by first | omega | (simp; done) | (simp; omega)) _))), by (repeat' (first | (with_reducible assumption) | (with_reducible refine Row.new' _ _ _ (by first | rfl | (simp; done) | omega)) | (with_reducible refine Row.alloc ?_ _) | (with_reducible refine Row.drew ?_) | (with_reducible refine Row.drewN ?_ _) | (with_reducible refine Row.step ?_ (by with_reducible assumption)) | (with_reducible refine Row.other ?_ (by first | omega | (simp; done) | (simp; omega)) _))), by (repeat' (first | (with_reducible assumption) | (with_reducible refine Row.new' _ _ _ (by first | rfl | (simp; done) | omega)) | (with_reducible refine Row.alloc ?_ _) | (with_reducible refine Row.drew ?_) | (with_reducible refine Row.drewN ?_ _) | (with_reducible refine Row.step ?_ (by with_reducible assumption)) | (with_reducible refine Row.other ?_ (by first | omega | (simp; done) | (simp; omega)) _))), by (repeat' (first | (with_reducible assumption) | (with_reducible refine Row.new' _ _ _ (by first | rfl | (simp; done) | omega)) | (with_reducible refine Row.alloc ?_ _) | (with_reducible refine Row.drew ?_) | (with_reducible refine Row.drewN ?_ _) | (with_reducible refine Row.step ?_ (by with_reducible assumption)) | (with_reducible refine Row.other ?_ (by first | omega | (simp; done) | (simp; omega)) _))), by (repeat' (first | (with_reducible assumption) | (with_reducible refine Row.new' _ _ _ (by first | rfl | (simp; done) | omega)) | (with_reducible refine Row.alloc ?_ _) | (with_reducible refine Row.drew ?_) | (with_reducible refine Row.drewN ?_ _) | (with_reducible refine Row.step ?_ (by with_reducible assumption)) | (with_reducible refine Row.other ?_ (by first | omega | (simp; done) | (simp; omega)) _))), by (repeat' (first | (with_reducible assumption) | (with_reducible refine Row.new' _ _ _ (by first | rfl | (simp; done) | omega)) | (with_reducible refine Row.alloc ?_ _) | (with_reducible refine Row.drew ?_) | (with_reducible refine Row.drewN ?_ _) | (with_reducible refine Row.step ?_ (by with_reducible assumption)) | (with_reducible refine Row.other ?_ (by first | omega | (simp; done) | (simp; omega)) _))), by (repeat' (first | (with_reducible assumption) | (with_reducible refine Row.new' _ _ _ (by first | rfl | (simp; done) | omega)) | (with_reducible refine Row.alloc ?_ _) | (with_reducible refine Row.drew ?_) | (with_reducible refine Row.drewN ?_ _) | (with_reducible refine Row.step ?_ (by with_reducible assumption)) | (with_reducible refine Row.other ?_ (by first | omega | (simp; done) | (simp; omega)) _))), (by (repeat' (first | (with_reducible exact Below.refl _ _) | (with_reducible assumption) | (with_reducible exact Bw.out (by with_reducible assumption)) | (with_reducible refine bw_alloc ?_ _) | (with_reducible refine bw_step ?_ (by with_reducible assumption)) | (with_reducible refine Below.alloc ?_ ?_ _) | (with_reducible refine Below.drew ?_) | (with_reducible refine below_drewN ?_ _) | (with_reducible refine Below.setCell ?_ ?_ _) | (with_reducible refine below_step ?_ (by with_reducible assumption) ?_) | (with_reducible exact Nat.le_refl _) | omega | (simp; omega) | (simp; done))) : Below _ _ _)⟩))
                (first | (go_at_call 14; (with_reducible refine (law_rat_any _ _ _).mono ?_); rintro e wx ⟨rfl, hbx⟩; obtain ⟨hcx, hzx⟩ := bcell hbx; have hsx := hbx.size; (try simp at hsx); have hsy := bsize hbx))
              all_goals
                rename_i hH
                obtain ⟨_, _, _, _, _, _, _, _, _, _, hHa, hHb, hHc, hHx, _, _, _, hHB⟩ := hH
                go_wp2_with fail
                go_meet
                exact ⟨rfl, hHa, hHb, hHc, hHx, hHB⟩
            case rest =>
              obtain ⟨rfl, Ra, Rb, Rc, Rx, HB⟩ := hcut
              have HB' := HB.out
              have ca0 := Ra.cell 0 rfl
              have ca1 := Ra.cell 1 rfl
              have cb0 := Rb.cell 0 rfl
              have cb1 := Rb.cell 1 rfl
              have cc0 := Rc.cell 0 rfl
              have cc1 := Rc.cell 1 rfl
              have la := Ra.lt
              have lb := Rb.lt
              have lc := Rc.lt
              have lx := Rx.lt
              go_wp2_with fail
              rcases fitE_or (a0 * b0) (a1 * b1) with f1 | f1
              · rcases fitE_or (b0 * c1 + c0 * b1) (b1 * c1) with f2 | f2
                · rcases fitE_or (a0 * c0) (a1 * c1) with f3 | f3
                  · obtain ⟨vx, hx, hxd⟩ := fit_ok (Int.mul_pos (by have := va.1; omega) (by have := vb.1; omega)) f1
                    obtain ⟨vs, hs, hsd⟩ := fit_ok (Int.mul_pos (by have := vb.1; omega) (by have := vc.1; omega)) f2
                    obtain ⟨vz, hz, hzd⟩ := fit_ok (Int.mul_pos (by have := va.1; omega) (by have := vc.1; omega)) f3
                    obtain ⟨q1, q2, q3⟩ := fit_same (Int.mul_pos (by have := va.1; omega) hsd) (Int.mul_pos hxd hzd) (distrib (by have := va.1; omega) (by have := vb.1; omega) (by have := vc.1; omega) hs hx hz)
                    clear hx hs hz
                    refine (Add_v _ _ _ _ _ vb vc).mono ?_
                    rintro e v1 ⟨rfl, hv1⟩
                    have Ra1 : Row v1 w.heap.size [.int .i64 a0, .int .i64 a1] := by (repeat' (first | (with_reducible assumption) | (with_reducible refine Row.new' _ _ _ (by first | rfl | (simp; done) | omega)) | (with_reducible refine Row.alloc ?_ _) | (with_reducible refine Row.drew ?_) | (with_reducible refine Row.drewN ?_ _) | (with_reducible refine Row.step ?_ (by with_reducible assumption))))
                    have Rc1 : Row v1 (w.heap.size + 1 + 1) [.int .i64 c0, .int .i64 c1] := by (repeat' (first | (with_reducible assumption) | (with_reducible refine Row.new' _ _ _ (by first | rfl | (simp; done) | omega)) | (with_reducible refine Row.alloc ?_ _) | (with_reducible refine Row.drew ?_) | (with_reducible refine Row.drewN ?_ _) | (with_reducible refine Row.step ?_ (by with_reducible assumption))))
                    have Rx1 : Row v1 w5.heap.size [.int .i64 (fitN (a0 * b0) (a1 * b1)), .int .i64 (fitD (a0 * b0) (a1 * b1))] := by (repeat' (first | (with_reducible assumption) | (with_reducible refine Row.new' _ _ _ (by first | rfl | (simp; done) | omega)) | (with_reducible refine Row.alloc ?_ _) | (with_reducible refine Row.drew ?_) | (with_reducible refine Row.drewN ?_ _) | (with_reducible refine Row.step ?_ (by with_reducible assumption))))
                    have ea0 := Ra1.cell 0 rfl
                    have ea1 := Ra1.cell 1 rfl
                    have ec0 := Rc1.cell 0 rfl
                    have ec1 := Rc1.cell 1 rfl
                    have na := Ra1.lt
                    have nc := Rc1.lt
                    go_wp2_with fail
                    refine (Mul_v _ _ _ _ _ va vc).mono ?_
                    rintro e v2 ⟨rfl, hv2⟩
                    have Ra2 : Row v2 w.heap.size [.int .i64 a0, .int .i64 a1] := by (repeat' (first | (with_reducible assumption) | (with_reducible refine Row.new' _ _ _ (by first | rfl | (simp; done) | omega)) | (with_reducible refine Row.alloc ?_ _) | (with_reducible refine Row.drew ?_) | (with_reducible refine Row.drewN ?_ _) | (with_reducible refine Row.step ?_ (by with_reducible assumption))))
                    have Rs2 : Row v2 v1.heap.size [.int .i64 (fitN (b0 * c1 + c0 * b1) (b1 * c1)), .int .i64 (fitD (b0 * c1 + c0 * b1) (b1 * c1))] := by (repeat' (first | (with_reducible assumption) | (with_reducible refine Row.new' _ _ _ (by first | rfl | (simp; done) | omega)) | (with_reducible refine Row.alloc ?_ _) | (with_reducible refine Row.drew ?_) | (with_reducible refine Row.drewN ?_ _) | (with_reducible refine Row.step ?_ (by with_reducible assumption))))
                    have Rx2 : Row v2 w5.heap.size [.int .i64 (fitN (a0 * b0) (a1 * b1)), .int .i64 (fitD (a0 * b0) (a1 * b1))] := by (repeat' (first | (with_reducible assumption) | (with_reducible refine Row.new' _ _ _ (by first | rfl | (simp; done) | omega)) | (with_reducible refine Row.alloc ?_ _) | (with_reducible refine Row.drew ?_) | (with_reducible refine Row.drewN ?_ _) | (with_reducible refine Row.step ?_ (by with_reducible assumption))))
                    have da0 := Ra2.cell 0 rfl
                    have da1 := Ra2.cell 1 rfl
                    have ds0 := Rs2.cell 0 rfl
                    have ds1 := Rs2.cell 1 rfl
                    have ma := Ra2.lt
                    have ms := Rs2.lt
                    go_wp2_with fail
                    refine (Mul_v _ _ _ _ _ va vs).mono ?_
                    rintro e v3 ⟨rfl, hv3⟩
                    have Rx3 : Row v3 w5.heap.size [.int .i64 (fitN (a0 * b0) (a1 * b1)), .int .i64 (fitD (a0 * b0) (a1 * b1))] := by (repeat' (first | (with_reducible assumption) | (with_reducible refine Row.new' _ _ _ (by first | rfl | (simp; done) | omega)) | (with_reducible refine Row.alloc ?_ _) | (with_reducible refine Row.drew ?_) | (with_reducible refine Row.drewN ?_ _) | (with_reducible refine Row.step ?_ (by with_reducible assumption))))
                    have Rz3 : Row v3 v2.heap.size [.int .i64 (fitN (a0 * c0) (a1 * c1)), .int .i64 (fitD (a0 * c0) (a1 * c1))] := by (repeat' (first | (with_reducible assumption) | (with_reducible refine Row.new' _ _ _ (by first | rfl | (simp; done) | omega)) | (with_reducible refine Row.alloc ?_ _) | (with_reducible refine Row.drew ?_) | (with_reducible refine Row.drewN ?_ _) | (with_reducible refine Row.step ?_ (by with_reducible assumption))))
                    have dx0 := Rx3.cell 0 rfl
                    have dx1 := Rx3.cell 1 rfl
                    have dz0 := Rz3.cell 0 rfl
                    have dz1 := Rz3.cell 1 rfl
                    have mx := Rx3.lt
                    have mz := Rz3.lt
                    go_wp2_with fail
                    refine (Add_v _ _ _ _ _ vx vz).mono ?_
                    rintro e v4 ⟨rfl, hv4⟩
                    have Rl4 : Row v4 v3.heap.size [.int .i64 (fitN (fitN (a0 * b0) (a1 * b1) * fitD (a0 * c0) (a1 * c1) + fitN (a0 * c0) (a1 * c1) * fitD (a0 * b0) (a1 * b1)) (fitD (a0 * b0) (a1 * b1) * fitD (a0 * c0) (a1 * c1))), .int .i64 (fitD (fitN (a0 * b0) (a1 * b1) * fitD (a0 * c0) (a1 * c1) + fitN (a0 * c0) (a1 * c1) * fitD (a0 * b0) (a1 * b1)) (fitD (a0 * b0) (a1 * b1) * fitD (a0 * c0) (a1 * c1)))] := by (repeat' (first | (with_reducible assumption) | (with_reducible refine Row.new' _ _ _ (by first | rfl | (simp; done) | omega)) | (with_reducible refine Row.alloc ?_ _) | (with_reducible refine Row.drew ?_) | (with_reducible refine Row.drewN ?_ _) | (with_reducible refine Row.step ?_ (by with_reducible assumption))))
                    have dl0 := Rl4.cell 0 rfl
                    have dl1 := Rl4.cell 1 rfl
                    have ml := Rl4.lt
                    go_wp2_with fail
                    go_ret
                    refine ⟨rfl, ?_⟩
                    (repeat' (first | (with_reducible exact Below.refl _ _) | (with_reducible assumption) | (with_reducible exact Bw.out (by with_reducible assumption)) | (with_reducible refine bw_alloc ?_ _) | (with_reducible refine bw_step ?_ (by with_reducible assumption)) | (with_reducible refine Below.alloc ?_ ?_ _) | (with_reducible refine Below.drew ?_) | (with_reducible refine below_drewN ?_ _) | (with_reducible refine Below.setCell ?_ ?_ _) | (with_reducible refine below_step ?_ (by with_reducible assumption) ?_) | (with_reducible exact Nat.le_refl _) | omega | (simp; omega) | (simp; done)))
                  ·
                    refine (Add_v _ _ _ _ _ vb vc).mono ?_
                    rintro e v1 ⟨rfl, hv1⟩
                    have Ra1 : Row v1 w.heap.size [.int .i64 a0, .int .i64 a1] := by (repeat' (first | (with_reducible assumption) | (with_reducible refine Row.new' _ _ _ (by first | rfl | (simp; done) | omega)) | (with_reducible refine Row.alloc ?_ _) | (with_reducible refine Row.drew ?_) | (with_reducible refine Row.drewN ?_ _) | (with_reducible refine Row.step ?_ (by with_reducible assumption))))
                    have Rc1 : Row v1 (w.heap.size + 1 + 1) [.int .i64 c0, .int .i64 c1] := by (repeat' (first | (with_reducible assumption) | (with_reducible refine Row.new' _ _ _ (by first | rfl | (simp; done) | omega)) | (with_reducible refine Row.alloc ?_ _) | (with_reducible refine Row.drew ?_) | (with_reducible refine Row.drewN ?_ _) | (with_reducible refine Row.step ?_ (by with_reducible assumption))))
                    have Rx1 : Row v1 w5.heap.size [.int .i64 (fitN (a0 * b0) (a1 * b1)), .int .i64 (fitD (a0 * b0) (a1 * b1))] := by (repeat' (first | (with_reducible assumption) | (with_reducible refine Row.new' _ _ _ (by first | rfl | (simp; done) | omega)) | (with_reducible refine Row.alloc ?_ _) | (with_reducible refine Row.drew ?_) | (with_reducible refine Row.drewN ?_ _) | (with_reducible refine Row.step ?_ (by with_reducible assumption))))
                    have ea0 := Ra1.cell 0 rfl
                    have ea1 := Ra1.cell 1 rfl
                    have ec0 := Rc1.cell 0 rfl
                    have ec1 := Rc1.cell 1 rfl
                    have na := Ra1.lt
                    have nc := Rc1.lt
                    go_wp2_with fail
                    refine (Mul_v _ _ _ _ _ va vc).mono ?_
                    rintro e v2 ⟨rfl, hv2⟩
                    go_wp2_with fail
                    go_ret
                    refine ⟨rfl, ?_⟩
                    (repeat' (first | (with_reducible exact Below.refl _ _) | (with_reducible assumption) | (with_reducible exact Bw.out (by with_reducible assumption)) | (with_reducible refine bw_alloc ?_ _) | (with_reducible refine bw_step ?_ (by with_reducible assumption)) | (with_reducible refine Below.alloc ?_ ?_ _) | (with_reducible refine Below.drew ?_) | (with_reducible refine below_drewN ?_ _) | (with_reducible refine Below.setCell ?_ ?_ _) | (with_reducible refine below_step ?_ (by with_reducible assumption) ?_) | (with_reducible exact Nat.le_refl _) | omega | (simp; omega) | (simp; done)))
                ·
                  refine (Add_v _ _ _ _ _ vb vc).mono ?_
                  rintro e v1 ⟨rfl, hv1⟩
                  have Ra1 : Row v1 w.heap.size [.int .i64 a0, .int .i64 a1] := by (repeat' (first | (with_reducible assumption) | (with_reducible refine Row.new' _ _ _ (by first | rfl | (simp; done) | omega)) | (with_reducible refine Row.alloc ?_ _) | (with_reducible refine Row.drew ?_) | (with_reducible refine Row.drewN ?_ _) | (with_reducible refine Row.step ?_ (by with_reducible assumption))))
                  have Rc1 : Row v1 (w.heap.size + 1 + 1) [.int .i64 c0, .int .i64 c1] := by (repeat' (first | (with_reducible assumption) | (with_reducible refine Row.new' _ _ _ (by first | rfl | (simp; done) | omega)) | (with_reducible refine Row.alloc ?_ _) | (with_reducible refine Row.drew ?_) | (with_reducible refine Row.drewN ?_ _) | (with_reducible refine Row.step ?_ (by with_reducible assumption))))
                  have Rx1 : Row v1 w5.heap.size [.int .i64 (fitN (a0 * b0) (a1 * b1)), .int .i64 (fitD (a0 * b0) (a1 * b1))] := by (repeat' (first | (with_reducible assumption) | (with_reducible refine Row.new' _ _ _ (by first | rfl | (simp; done) | omega)) | (with_reducible refine Row.alloc ?_ _) | (with_reducible refine Row.drew ?_) | (with_reducible refine Row.drewN ?_ _) | (with_reducible refine Row.step ?_ (by with_reducible assumption))))
                  have ea0 := Ra1.cell 0 rfl
                  have ea1 := Ra1.cell 1 rfl
                  have ec0 := Rc1.cell 0 rfl
                  have ec1 := Rc1.cell 1 rfl
                  have na := Ra1.lt
                  have nc := Rc1.lt
                  go_wp2_with fail
                  refine (Mul_v _ _ _ _ _ va vc).mono ?_
                  rintro e v2 ⟨rfl, hv2⟩
                  go_wp2_with fail
                  go_ret
                  refine ⟨rfl, ?_⟩
                  (repeat' (first | (with_reducible exact Below.refl _ _) | (with_reducible assumption) | (with_reducible exact Bw.out (by with_reducible assumption)) | (with_reducible refine bw_alloc ?_ _) | (with_reducible refine bw_step ?_ (by with_reducible assumption)) | (with_reducible refine Below.alloc ?_ ?_ _) | (with_reducible refine Below.drew ?_) | (with_reducible refine below_drewN ?_ _) | (with_reducible refine Below.setCell ?_ ?_ _) | (with_reducible refine below_step ?_ (by with_reducible assumption) ?_) | (with_reducible exact Nat.le_refl _) | omega | (simp; omega) | (simp; done)))
              ·
                refine (Add_v _ _ _ _ _ vb vc).mono ?_
                rintro e v1 ⟨rfl, hv1⟩
                have Ra1 : Row v1 w.heap.size [.int .i64 a0, .int .i64 a1] := by (repeat' (first | (with_reducible assumption) | (with_reducible refine Row.new' _ _ _ (by first | rfl | (simp; done) | omega)) | (with_reducible refine Row.alloc ?_ _) | (with_reducible refine Row.drew ?_) | (with_reducible refine Row.drewN ?_ _) | (with_reducible refine Row.step ?_ (by with_reducible assumption))))
                have Rc1 : Row v1 (w.heap.size + 1 + 1) [.int .i64 c0, .int .i64 c1] := by (repeat' (first | (with_reducible assumption) | (with_reducible refine Row.new' _ _ _ (by first | rfl | (simp; done) | omega)) | (with_reducible refine Row.alloc ?_ _) | (with_reducible refine Row.drew ?_) | (with_reducible refine Row.drewN ?_ _) | (with_reducible refine Row.step ?_ (by with_reducible assumption))))
                have Rx1 : Row v1 w5.heap.size [.int .i64 (fitN (a0 * b0) (a1 * b1)), .int .i64 (fitD (a0 * b0) (a1 * b1))] := by (repeat' (first | (with_reducible assumption) | (with_reducible refine Row.new' _ _ _ (by first | rfl | (simp; done) | omega)) | (with_reducible refine Row.alloc ?_ _) | (with_reducible refine Row.drew ?_) | (with_reducible refine Row.drewN ?_ _) | (with_reducible refine Row.step ?_ (by with_reducible assumption))))
                have ea0 := Ra1.cell 0 rfl
                have ea1 := Ra1.cell 1 rfl
                have ec0 := Rc1.cell 0 rfl
                have ec1 := Rc1.cell 1 rfl
                have na := Ra1.lt
                have nc := Rc1.lt
                go_wp2_with fail
                refine (Mul_v _ _ _ _ _ va vc).mono ?_
                rintro e v2 ⟨rfl, hv2⟩
                go_wp2_with fail
                go_ret
                refine ⟨rfl, ?_⟩
                (repeat' (first | (with_reducible exact Below.refl _ _) | (with_reducible assumption) | (with_reducible exact Bw.out (by with_reducible assumption)) | (with_reducible refine bw_alloc ?_ _) | (with_reducible refine bw_step ?_ (by with_reducible assumption)) | (with_reducible refine Below.alloc ?_ ?_ _) | (with_reducible refine Below.drew ?_) | (with_reducible refine below_drewN ?_ _) | (with_reducible refine Below.setCell ?_ ?_ _) | (with_reducible refine below_step ?_ (by with_reducible assumption) ?_) | (with_reducible exact Nat.le_refl _) | omega | (simp; omega) | (simp; done)))
      · have ec := vld_false vc
        go_enter Try.func4, Try.ntmps4
        go_wp2_with fail
        refine (head_any _).mono ?_
        rintro e w1 ⟨rfl, hb1⟩
        have Ra1 : Row w1 w.heap.size [.int .i64 a0, .int .i64 a1] := by (repeat' (first | (with_reducible assumption) | (with_reducible refine Row.new' _ _ _ (by first | rfl | (simp; done) | omega)) | (with_reducible refine Row.alloc ?_ _) | (with_reducible refine Row.drew ?_) | (with_reducible refine Row.drewN ?_ _) | (with_reducible refine Row.step ?_ (by with_reducible assumption))))
        have Rb1 : Row w1 (w.heap.size + 1) [.int .i64 b0, .int .i64 b1] := by (repeat' (first | (with_reducible assumption) | (with_reducible refine Row.new' _ _ _ (by first | rfl | (simp; done) | omega)) | (with_reducible refine Row.alloc ?_ _) | (with_reducible refine Row.drew ?_) | (with_reducible refine Row.drewN ?_ _) | (with_reducible refine Row.step ?_ (by with_reducible assumption))))
        have Rc1 : Row w1 (w.heap.size + 1 + 1) [.int .i64 c0, .int .i64 c1] := by (repeat' (first | (with_reducible assumption) | (with_reducible refine Row.new' _ _ _ (by first | rfl | (simp; done) | omega)) | (with_reducible refine Row.alloc ?_ _) | (with_reducible refine Row.drew ?_) | (with_reducible refine Row.drewN ?_ _) | (with_reducible refine Row.step ?_ (by with_reducible assumption))))
        have ca01 := Ra1.cell 0 rfl
        have ca11 := Ra1.cell 1 rfl
        have cb01 := Rb1.cell 0 rfl
        have cb11 := Rb1.cell 1 rfl
        have cc01 := Rc1.cell 0 rfl
        have cc11 := Rc1.cell 1 rfl
        have la1 := Ra1.lt
        have lb1 := Rb1.lt
        have lc1 := Rc1.lt
        go_wp2_with fail
        refine (R_valid_any _ _ _).mono ?_
        rintro e w2 ⟨rfl, hb2⟩
        have Ra2 : Row w2 w.heap.size [.int .i64 a0, .int .i64 a1] := by (repeat' (first | (with_reducible assumption) | (with_reducible refine Row.new' _ _ _ (by first | rfl | (simp; done) | omega)) | (with_reducible refine Row.alloc ?_ _) | (with_reducible refine Row.drew ?_) | (with_reducible refine Row.drewN ?_ _) | (with_reducible refine Row.step ?_ (by with_reducible assumption))))
        have Rb2 : Row w2 (w.heap.size + 1) [.int .i64 b0, .int .i64 b1] := by (repeat' (first | (with_reducible assumption) | (with_reducible refine Row.new' _ _ _ (by first | rfl | (simp; done) | omega)) | (with_reducible refine Row.alloc ?_ _) | (with_reducible refine Row.drew ?_) | (with_reducible refine Row.drewN ?_ _) | (with_reducible refine Row.step ?_ (by with_reducible assumption))))
        have Rc2 : Row w2 (w.heap.size + 1 + 1) [.int .i64 c0, .int .i64 c1] := by (repeat' (first | (with_reducible assumption) | (with_reducible refine Row.new' _ _ _ (by first | rfl | (simp; done) | omega)) | (with_reducible refine Row.alloc ?_ _) | (with_reducible refine Row.drew ?_) | (with_reducible refine Row.drewN ?_ _) | (with_reducible refine Row.step ?_ (by with_reducible assumption))))
        have ca02 := Ra2.cell 0 rfl
        have ca12 := Ra2.cell 1 rfl
        have cb02 := Rb2.cell 0 rfl
        have cb12 := Rb2.cell 1 rfl
        have cc02 := Rc2.cell 0 rfl
        have cc12 := Rc2.cell 1 rfl
        have la2 := Ra2.lt
        have lb2 := Rb2.lt
        have lc2 := Rc2.lt
        go_wp2_with fail
        refine (R_valid_any _ _ _).mono ?_
        rintro e w3 ⟨rfl, hb3⟩
        have Ra3 : Row w3 w.heap.size [.int .i64 a0, .int .i64 a1] := by (repeat' (first | (with_reducible assumption) | (with_reducible refine Row.new' _ _ _ (by first | rfl | (simp; done) | omega)) | (with_reducible refine Row.alloc ?_ _) | (with_reducible refine Row.drew ?_) | (with_reducible refine Row.drewN ?_ _) | (with_reducible refine Row.step ?_ (by with_reducible assumption))))
        have Rb3 : Row w3 (w.heap.size + 1) [.int .i64 b0, .int .i64 b1] := by (repeat' (first | (with_reducible assumption) | (with_reducible refine Row.new' _ _ _ (by first | rfl | (simp; done) | omega)) | (with_reducible refine Row.alloc ?_ _) | (with_reducible refine Row.drew ?_) | (with_reducible refine Row.drewN ?_ _) | (with_reducible refine Row.step ?_ (by with_reducible assumption))))
        have Rc3 : Row w3 (w.heap.size + 1 + 1) [.int .i64 c0, .int .i64 c1] := by (repeat' (first | (with_reducible assumption) | (with_reducible refine Row.new' _ _ _ (by first | rfl | (simp; done) | omega)) | (with_reducible refine Row.alloc ?_ _) | (with_reducible refine Row.drew ?_) | (with_reducible refine Row.drewN ?_ _) | (with_reducible refine Row.step ?_ (by with_reducible assumption))))
        have ca03 := Ra3.cell 0 rfl
        have ca13 := Ra3.cell 1 rfl
        have cb03 := Rb3.cell 0 rfl
        have cb13 := Rb3.cell 1 rfl
        have cc03 := Rc3.cell 0 rfl
        have cc13 := Rc3.cell 1 rfl
        have la3 := Ra3.lt
        have lb3 := Rb3.lt
        have lc3 := Rc3.lt
        go_wp2_with fail
        refine (R_valid_any _ _ _).mono ?_
        rintro e w4 ⟨rfl, hb4⟩
        have Ra4 : Row w4 w.heap.size [.int .i64 a0, .int .i64 a1] := by (repeat' (first | (with_reducible assumption) | (with_reducible refine Row.new' _ _ _ (by first | rfl | (simp; done) | omega)) | (with_reducible refine Row.alloc ?_ _) | (with_reducible refine Row.drew ?_) | (with_reducible refine Row.drewN ?_ _) | (with_reducible refine Row.step ?_ (by with_reducible assumption))))
        have Rb4 : Row w4 (w.heap.size + 1) [.int .i64 b0, .int .i64 b1] := by (repeat' (first | (with_reducible assumption) | (with_reducible refine Row.new' _ _ _ (by first | rfl | (simp; done) | omega)) | (with_reducible refine Row.alloc ?_ _) | (with_reducible refine Row.drew ?_) | (with_reducible refine Row.drewN ?_ _) | (with_reducible refine Row.step ?_ (by with_reducible assumption))))
        have Rc4 : Row w4 (w.heap.size + 1 + 1) [.int .i64 c0, .int .i64 c1] := by (repeat' (first | (with_reducible assumption) | (with_reducible refine Row.new' _ _ _ (by first | rfl | (simp; done) | omega)) | (with_reducible refine Row.alloc ?_ _) | (with_reducible refine Row.drew ?_) | (with_reducible refine Row.drewN ?_ _) | (with_reducible refine Row.step ?_ (by with_reducible assumption))))
        have ca04 := Ra4.cell 0 rfl
        have ca14 := Ra4.cell 1 rfl
        have cb04 := Rb4.cell 0 rfl
        have cb14 := Rb4.cell 1 rfl
        have cc04 := Rc4.cell 0 rfl
        have cc14 := Rc4.cell 1 rfl
        have la4 := Ra4.lt
        have lb4 := Rb4.lt
        have lc4 := Rc4.lt
        go_wp2_with fail
        go_ret
        refine ⟨rfl, ?_⟩
        (repeat' (first | (with_reducible exact Below.refl _ _) | (with_reducible assumption) | (with_reducible exact Bw.out (by with_reducible assumption)) | (with_reducible refine bw_alloc ?_ _) | (with_reducible refine bw_step ?_ (by with_reducible assumption)) | (with_reducible refine Below.alloc ?_ ?_ _) | (with_reducible refine Below.drew ?_) | (with_reducible refine below_drewN ?_ _) | (with_reducible refine Below.setCell ?_ ?_ _) | (with_reducible refine below_step ?_ (by with_reducible assumption) ?_) | (with_reducible exact Nat.le_refl _) | omega | (simp; omega) | (simp; done)))
    · have eb := vld_false vb
      go_enter Try.func4, Try.ntmps4
      go_wp2_with fail
      refine (head_any _).mono ?_
      rintro e w1 ⟨rfl, hb1⟩
      have Ra1 : Row w1 w.heap.size [.int .i64 a0, .int .i64 a1] := by (repeat' (first | (with_reducible assumption) | (with_reducible refine Row.new' _ _ _ (by first | rfl | (simp; done) | omega)) | (with_reducible refine Row.alloc ?_ _) | (with_reducible refine Row.drew ?_) | (with_reducible refine Row.drewN ?_ _) | (with_reducible refine Row.step ?_ (by with_reducible assumption))))
      have Rb1 : Row w1 (w.heap.size + 1) [.int .i64 b0, .int .i64 b1] := by (repeat' (first | (with_reducible assumption) | (with_reducible refine Row.new' _ _ _ (by first | rfl | (simp; done) | omega)) | (with_reducible refine Row.alloc ?_ _) | (with_reducible refine Row.drew ?_) | (with_reducible refine Row.drewN ?_ _) | (with_reducible refine Row.step ?_ (by with_reducible assumption))))
      have Rc1 : Row w1 (w.heap.size + 1 + 1) [.int .i64 c0, .int .i64 c1] := by (repeat' (first | (with_reducible assumption) | (with_reducible refine Row.new' _ _ _ (by first | rfl | (simp; done) | omega)) | (with_reducible refine Row.alloc ?_ _) | (with_reducible refine Row.drew ?_) | (with_reducible refine Row.drewN ?_ _) | (with_reducible refine Row.step ?_ (by with_reducible assumption))))
      have ca01 := Ra1.cell 0 rfl
      have ca11 := Ra1.cell 1 rfl
      have cb01 := Rb1.cell 0 rfl
      have cb11 := Rb1.cell 1 rfl
      have cc01 := Rc1.cell 0 rfl
      have cc11 := Rc1.cell 1 rfl
      have la1 := Ra1.lt
      have lb1 := Rb1.lt
      have lc1 := Rc1.lt
      go_wp2_with fail
      refine (R_valid_any _ _ _).mono ?_
      rintro e w2 ⟨rfl, hb2⟩
      have Ra2 : Row w2 w.heap.size [.int .i64 a0, .int .i64 a1] := by (repeat' (first | (with_reducible assumption) | (with_reducible refine Row.new' _ _ _ (by first | rfl | (simp; done) | omega)) | (with_reducible refine Row.alloc ?_ _) | (with_reducible refine Row.drew ?_) | (with_reducible refine Row.drewN ?_ _) | (with_reducible refine Row.step ?_ (by with_reducible assumption))))
      have Rb2 : Row w2 (w.heap.size + 1) [.int .i64 b0, .int .i64 b1] := by (repeat' (first | (with_reducible assumption) | (with_reducible refine Row.new' _ _ _ (by first | rfl | (simp; done) | omega)) | (with_reducible refine Row.alloc ?_ _) | (with_reducible refine Row.drew ?_) | (with_reducible refine Row.drewN ?_ _) | (with_reducible refine Row.step ?_ (by with_reducible assumption))))
      have Rc2 : Row w2 (w.heap.size + 1 + 1) [.int .i64 c0, .int .i64 c1] := by (repeat' (first | (with_reducible assumption) | (with_reducible refine Row.new' _ _ _ (by first | rfl | (simp; done) | omega)) | (with_reducible refine Row.alloc ?_ _) | (with_reducible refine Row.drew ?_) | (with_reducible refine Row.drewN ?_ _) | (with_reducible refine Row.step ?_ (by with_reducible assumption))))
      have ca02 := Ra2.cell 0 rfl
      have ca12 := Ra2.cell 1 rfl
      have cb02 := Rb2.cell 0 rfl
      have cb12 := Rb2.cell 1 rfl
      have cc02 := Rc2.cell 0 rfl
      have cc12 := Rc2.cell 1 rfl
      have la2 := Ra2.lt
      have lb2 := Rb2.lt
      have lc2 := Rc2.lt
      go_wp2_with fail
      refine (R_valid_any _ _ _).mono ?_
      rintro e w3 ⟨rfl, hb3⟩
      have Ra3 : Row w3 w.heap.size [.int .i64 a0, .int .i64 a1] := by (repeat' (first | (with_reducible assumption) | (with_reducible refine Row.new' _ _ _ (by first | rfl | (simp; done) | omega)) | (with_reducible refine Row.alloc ?_ _) | (with_reducible refine Row.drew ?_) | (with_reducible refine Row.drewN ?_ _) | (with_reducible refine Row.step ?_ (by with_reducible assumption))))
      have Rb3 : Row w3 (w.heap.size + 1) [.int .i64 b0, .int .i64 b1] := by (repeat' (first | (with_reducible assumption) | (with_reducible refine Row.new' _ _ _ (by first | rfl | (simp; done) | omega)) | (with_reducible refine Row.alloc ?_ _) | (with_reducible refine Row.drew ?_) | (with_reducible refine Row.drewN ?_ _) | (with_reducible refine Row.step ?_ (by with_reducible assumption))))
      have Rc3 : Row w3 (w.heap.size + 1 + 1) [.int .i64 c0, .int .i64 c1] := by (repeat' (first | (with_reducible assumption) | (with_reducible refine Row.new' _ _ _ (by first | rfl | (simp; done) | omega)) | (with_reducible refine Row.alloc ?_ _) | (with_reducible refine Row.drew ?_) | (with_reducible refine Row.drewN ?_ _) | (with_reducible refine Row.step ?_ (by with_reducible assumption))))
      have ca03 := Ra3.cell 0 rfl
      have ca13 := Ra3.cell 1 rfl
      have cb03 := Rb3.cell 0 rfl
      have cb13 := Rb3.cell 1 rfl
      have cc03 := Rc3.cell 0 rfl
      have cc13 := Rc3.cell 1 rfl
      have la3 := Ra3.lt
      have lb3 := Rb3.lt
      have lc3 := Rc3.lt
      go_wp2_with fail
      go_ret
      refine ⟨rfl, ?_⟩
      (repeat' (first | (with_reducible exact Below.refl _ _) | (with_reducible assumption) | (with_reducible exact Bw.out (by with_reducible assumption)) | (with_reducible refine bw_alloc ?_ _) | (with_reducible refine bw_step ?_ (by with_reducible assumption)) | (with_reducible refine Below.alloc ?_ ?_ _) | (with_reducible refine Below.drew ?_) | (with_reducible refine below_drewN ?_ _) | (with_reducible refine Below.setCell ?_ ?_ _) | (with_reducible refine below_step ?_ (by with_reducible assumption) ?_) | (with_reducible exact Nat.le_refl _) | omega | (simp; omega) | (simp; done)))
  · have ea := vld_false va
    go_enter Try.func4, Try.ntmps4
    go_wp2_with fail
    refine (head_any _).mono ?_
    rintro e w1 ⟨rfl, hb1⟩
    have Ra1 : Row w1 w.heap.size [.int .i64 a0, .int .i64 a1] := by (repeat' (first | (with_reducible assumption) | (with_reducible refine Row.new' _ _ _ (by first | rfl | (simp; done) | omega)) | (with_reducible refine Row.alloc ?_ _) | (with_reducible refine Row.drew ?_) | (with_reducible refine Row.drewN ?_ _) | (with_reducible refine Row.step ?_ (by with_reducible assumption))))
    have Rb1 : Row w1 (w.heap.size + 1) [.int .i64 b0, .int .i64 b1] := by (repeat' (first | (with_reducible assumption) | (with_reducible refine Row.new' _ _ _ (by first | rfl | (simp; done) | omega)) | (with_reducible refine Row.alloc ?_ _) | (with_reducible refine Row.drew ?_) | (with_reducible refine Row.drewN ?_ _) | (with_reducible refine Row.step ?_ (by with_reducible assumption))))
    have Rc1 : Row w1 (w.heap.size + 1 + 1) [.int .i64 c0, .int .i64 c1] := by (repeat' (first | (with_reducible assumption) | (with_reducible refine Row.new' _ _ _ (by first | rfl | (simp; done) | omega)) | (with_reducible refine Row.alloc ?_ _) | (with_reducible refine Row.drew ?_) | (with_reducible refine Row.drewN ?_ _) | (with_reducible refine Row.step ?_ (by with_reducible assumption))))
    have ca01 := Ra1.cell 0 rfl
    have ca11 := Ra1.cell 1 rfl
    have cb01 := Rb1.cell 0 rfl
    have cb11 := Rb1.cell 1 rfl
    have cc01 := Rc1.cell 0 rfl
    have cc11 := Rc1.cell 1 rfl
    have la1 := Ra1.lt
    have lb1 := Rb1.lt
    have lc1 := Rc1.lt
    go_wp2_with fail
    refine (R_valid_any _ _ _).mono ?_
    rintro e w2 ⟨rfl, hb2⟩
    go_wp2_with fail
    go_ret
    refine ⟨rfl, ?_⟩
    (repeat' (first | (with_reducible exact Below.refl _ _) | (with_reducible assumption) | (with_reducible exact Bw.out (by with_reducible assumption)) | (with_reducible refine bw_alloc ?_ _) | (with_reducible refine bw_step ?_ (by with_reducible assumption)) | (with_reducible refine Below.alloc ?_ ?_ _) | (with_reducible refine Below.drew ?_) | (with_reducible refine below_drewN ?_ _) | (with_reducible refine Below.setCell ?_ ?_ _) | (with_reducible refine below_step ?_ (by with_reducible assumption) ?_) | (with_reducible exact Nat.le_refl _) | omega | (simp; omega) | (simp; done)))


set_option maxRecDepth 100000 in
theorem ratioProducts_lifted (os : Os) (started : os.Started) (H : Type) (enc : TypeId × Value → H) :
    ReturnsInHanded {} Try.checked os 4 .any (Rows.ratioProductsSpec.pre6 enc Try.prog Try.f4 Rows.ratioProductsRow.domain false) (Rows.ratioProductsSpec.post enc Try.prog Try.f4 false true false false) := by
  refine returnsInHanded_of_change (C := Try.checked) own started (by kernel_rfl) Try.func4
    (ChangeSpec.witness6 (enc := enc) (C := Try.checked) false ⟨#[], #[.agg #[.int .i64 0, .int .i64 0], .agg #[.int .i64 0, .int .i64 0], .agg #[.int .i64 0, .int .i64 0]], []⟩ 8 (by kernel_rfl) (by kernel_rfl) (by kernel_rfl) (by kernel_rfl)) ?_
  intro W base args ds gs before hval0 hW _ _
  have hval : ∀ (j : Nat) t v, Try.f4.params[j]? = some t → args[j]? = some v → Value.okWide Try.prog W .any base t v := hval0
  have hW' := hW
  obtain ⟨p, q, hA0, hV, rfl, hfz, hnd⟩ := hW
  obtain ⟨rfl, rfl⟩ := trodVars_none hV
  have hA : DataW.TrodAll enc Try.prog W 0 (fun _ => true) true Try.f4.params.toList args.toList ds p := hA0
  rw [Try.params4] at hA hval
  obtain ⟨v0, vs0, d0, ds0, p0, q0, hargs, rfl, rfl, h0, r0⟩ := trodAll_cons hA
  obtain ⟨v1, vs1, d1, ds1, p1, q1, rfl, rfl, rfl, h1, r1⟩ := trodAll_cons r0
  obtain ⟨v2, vs2, d2, ds2, p2, q2, rfl, rfl, rfl, h2, r2⟩ := trodAll_cons r1
  obtain ⟨rfl, rfl, rfl⟩ := trodAll_nil r2
  obtain rfl : args = #[v0, v1, v2] := by cases args; simp_all
  obtain ⟨c00, c01, y00, y01, m0, rfl, rfl, rfl, hy00, hy01⟩ := Go.Joins.open_agg2 Try.underlying24 (by kernel_rfl) (by kernel_rfl) (hval 0 24 v0 rfl rfl) h0
  obtain ⟨a0, e00, rfl, wa0⟩ := DataW.trod_int Try.underlying3 hy00
  simp only [List.cons.injEq, and_true] at e00
  subst e00
  obtain ⟨a1, e01, rfl, wa1⟩ := DataW.trod_int Try.underlying3 hy01
  simp only [List.cons.injEq, and_true] at e01
  subst e01
  obtain ⟨c10, c11, y10, y11, m1, rfl, rfl, rfl, hy10, hy11⟩ := Go.Joins.open_agg2 Try.underlying24 (by kernel_rfl) (by kernel_rfl) (hval 1 24 v1 rfl rfl) h1
  obtain ⟨b0, e10, rfl, wb0⟩ := DataW.trod_int Try.underlying3 hy10
  simp only [List.cons.injEq, and_true] at e10
  subst e10
  obtain ⟨b1, e11, rfl, wb1⟩ := DataW.trod_int Try.underlying3 hy11
  simp only [List.cons.injEq, and_true] at e11
  subst e11
  obtain ⟨c20, c21, y20, y21, m2, rfl, rfl, rfl, hy20, hy21⟩ := Go.Joins.open_agg2 Try.underlying24 (by kernel_rfl) (by kernel_rfl) (hval 2 24 v2 rfl rfl) h2
  obtain ⟨c0, e20, rfl, wc0⟩ := DataW.trod_int Try.underlying3 hy20
  simp only [List.cons.injEq, and_true] at e20
  subst e20
  obtain ⟨c1, e21, rfl, wc1⟩ := DataW.trod_int Try.underlying3 hy21
  simp only [List.cons.injEq, and_true] at e21
  subst e21
  clear hA0 hval0
  refine (products_walk a0 a1 b0 b1 c0 c1 wa0 wa1 wb0 wb1 wc0 wc1 W).mono fun e W' ⟨he, hb⟩ => ?_
  subst he
  exact ⟨_, rfl, law_post (B := 4) laidOut (by rw [Try.params4]; simp only [List.mem_cons, List.not_mem_nil, or_false, forall_eq_or_imp, forall_eq]; first | exact readable_ratioProducts | (repeat' apply And.intro) <;> first | exact of_decide_eq_true (by kernel_rfl) | kernel_rfl) rfl Try.underlying4 rfl rfl hW' hb⟩

theorem ratioProducts_over : Rows.ratioProductsRow.holds Try.pinned (OpenSpec.ofChange Rows.ratioProductsSpec) :=
  OpenClaim.holds_of_wide 4 Try.f4 rfl rfl rfl rfl rfl rfl rfl ⟨rfl, rfl, rfl, rfl, rfl⟩ rfl rfl rfl rfl rfl (by kernel_rfl) Try.func4 (by kernel_rfl)
    (of_decide_eq_true (by kernel_rfl)) (by unfold Func.isWrapper; first | (rw [if_pos (by decide +kernel)]; kernel_rfl) | (rw [if_neg (by decide +kernel)]; exact ⟨rfl, rfl⟩))
    (fun os started H enc _ => ratioProducts_lifted os started H enc)

theorem ratioProducts_holds : Rows.RatioProductsSaid := ratioProducts_over
#print axioms ratioProducts_holds
end Go.Proofs.Ytmndiejojlmblaa
