/-
  TypesReplaced: if one of the Kids of an expression is replaced by another expression of the same type, the type stays, or there is none as before.
  No condition: for every input (what is not few, or not well-formed, is not looked at).
-/
import Derived.Test.YtcmodmchnokmgaaTyS
import Derived.Test.YtcmodmchnokmgaaOwnG
namespace Go.Proofs.Ytcmodmchnokmgaa
set_option linter.unusedSimpArgs false
set_option linter.unusedVariables false
open Go.ChangeShapes Go.WideShapes Go.ChangeAt Go.RowKit

theorem infer_zero {x : Ex} (h : inferE x = 0) : validE x = true ∧ x.ty ≠ 0 ∧ inferV x = x.ty := by
  unfold inferE at h
  split at h
  · rename_i hv
    split at h
    · simp at h
    · rename_i h0; exact ⟨hv, h0, by unfold inferV; rw [if_pos hv]⟩
  · simp at h
/-- The replaced expression has the same type. -/
theorem infer_set {x z y k : Ex} {i : Nat} (hx : validE x = true) (hz : validE z = true) (hk : x.ks[i]? = some k) (hzk : z.ks = x.ks.set i y) (ho : z.op = x.op) (h1 : inferE k = 0) (h2 : inferE y = 0) (h3 : inferV k = inferV y) : inferV z = inferV x ∧ inferE z = inferE x := by
  obtain ⟨_, _, e1⟩ := infer_zero h1
  obtain ⟨_, _, e2⟩ := infer_zero h2
  have ht := ty_set hk hzk ho (by rw [← e2, ← h3, e1])
  unfold inferV inferE
  rw [hx, hz, ht]
  exact ⟨rfl, rfl⟩

set_option maxRecDepth 100000 in
set_option maxHeartbeats 6400000 in
theorem replaced_walk (x y : Ex) (q : Int) (_ : x.Wf) (_ : y.Wf) (wq : (Lit.int .u8 q).wf = true) (w : World) (hx : x.In w) (hy : y.In w) :
    Calls Try.prog 5 #[x.val, y.val, .int .u8 q] w fun e w' => e = .returned (.bool true) ∧ Below w.heap.size w w' := by
  obtain ⟨q0, q1⟩ := bd_u8 wq
  have HX := Lib.hid hx
  have HY := Lib.hid hy
  obtain ⟨p1, hp⟩ : ∃ p, fewE x = p := ⟨_, rfl⟩
  have P1 := Lib.hid hp
  clear hp
  obtain ⟨p2, hp⟩ : ∃ p, fewE y = p := ⟨_, rfl⟩
  have P2 := Lib.hid hp
  clear hp
  obtain ⟨p3, hp⟩ : ∃ p, validE x = p := ⟨_, rfl⟩
  have P3 := Lib.hid hp
  clear hp hx hy wq
  obtain ⟨ad, had⟩ : ∃ ad, x.at' = ad := ⟨_, rfl⟩
  obtain ⟨m, hm⟩ : ∃ m, x.ks.length = m := ⟨_, rfl⟩
  have HAM := Lib.hid (And.intro had hm)
  have hml : Hid (m ≤ 9223372036854775807) := by show _ ≤ _; rw [← hm]; exact HX.out.len
  have HC := fun (w : World) (h : x.In w) => R_few_p x w h p1 P1.out
  have HC8 := fun (w : World) (h : x.In w) => valid8_p x w h p3 P3.out
  have HCI := fun (w : World) (h : x.In w) => infer_p x w h _ _ rfl rfl
  rw [show x.val = .agg #[.int .i64 x.op, .int .i64 x.n, .slice x.at' x.ks.length x.cap] from rfl, show y.val = .agg #[.int .i64 y.op, .int .i64 y.n, .slice y.at' y.ks.length y.cap] from rfl]
  rw [had, hm] at HC HC8 HCI ⊢
  have H1 := Lib.hid HC
  have H2 := Lib.hid HC8
  have H3 := Lib.hid HCI
  clear had hm HC HC8 HCI
  go_enter Try.func5, Try.ntmps5
  go_wp2_with fail
  refine (head_any _).mono ?_
  rintro e w1 ⟨rfl, hb1⟩
  have R_e_1 : Row w1 (w.heap.size) [.int .i64 x.op, .int .i64 x.n, .slice ad m x.cap] := by (repeat' (first | (with_reducible assumption) | (with_reducible refine Row.new' _ _ _ (by first | rfl | (simp; done) | omega)) | (with_reducible refine Row.alloc ?_ _) | (with_reducible refine Row.drew ?_) | (with_reducible refine Row.drewN ?_ _) | (with_reducible refine Row.step ?_ (by with_reducible assumption)) | (with_reducible refine Row.set2' ?_ _ _; first | exact ⟨_, _, by with_reducible assumption⟩ | exact ⟨_, _, Row.alloc (by with_reducible assumption) _⟩ | exact ⟨_, _, Row.alloc (Row.alloc (by with_reducible assumption) _) _⟩) | (with_reducible refine Row.other ?_ (by first | omega | (simp; done) | (simp; omega)) _)))
  have c_e_0_1 := R_e_1.cell 0 rfl
  have c_e_1_1 := R_e_1.cell 1 rfl
  have c_e_2_1 := R_e_1.cell 2 rfl
  have l_e_1 := R_e_1.lt
  have R_f_1 : Row w1 (w.heap.size + 1) [.int .i64 y.op, .int .i64 y.n, .slice y.at' y.ks.length y.cap] := by (repeat' (first | (with_reducible assumption) | (with_reducible refine Row.new' _ _ _ (by first | rfl | (simp; done) | omega)) | (with_reducible refine Row.alloc ?_ _) | (with_reducible refine Row.drew ?_) | (with_reducible refine Row.drewN ?_ _) | (with_reducible refine Row.step ?_ (by with_reducible assumption)) | (with_reducible refine Row.set2' ?_ _ _; first | exact ⟨_, _, by with_reducible assumption⟩ | exact ⟨_, _, Row.alloc (by with_reducible assumption) _⟩ | exact ⟨_, _, Row.alloc (Row.alloc (by with_reducible assumption) _) _⟩) | (with_reducible refine Row.other ?_ (by first | omega | (simp; done) | (simp; omega)) _)))
  have c_f_0_1 := R_f_1.cell 0 rfl
  have c_f_1_1 := R_f_1.cell 1 rfl
  have c_f_2_1 := R_f_1.cell 2 rfl
  have l_f_1 := R_f_1.lt
  have HB1 : Below w.heap.size w w1 := by (repeat' (first | (with_reducible exact Below.refl _ _) | (with_reducible assumption) | (with_reducible exact Bw.out (by with_reducible assumption)) | (with_reducible refine bw_alloc ?_ _) | (with_reducible refine bw_step ?_ (by with_reducible assumption)) | (with_reducible refine Below.alloc ?_ ?_ _) | (with_reducible refine Below.drew ?_) | (with_reducible refine below_drewN ?_ _) | (with_reducible refine Below.setCell ?_ ?_ _) | (with_reducible refine below_step ?_ (by with_reducible assumption) ?_) | (with_reducible exact Nat.le_refl _) | omega | (simp; omega) | (simp; done)))
  go_wp2_with fail
  refine (H1.out _ (HX.out.step HB1)).mono ?_
  rintro e w2 ⟨rfl, hb2⟩
  have R_e_2 : Row w2 (w.heap.size) [.int .i64 x.op, .int .i64 x.n, .slice ad m x.cap] := by (repeat' (first | (with_reducible assumption) | (with_reducible refine Row.new' _ _ _ (by first | rfl | (simp; done) | omega)) | (with_reducible refine Row.alloc ?_ _) | (with_reducible refine Row.drew ?_) | (with_reducible refine Row.drewN ?_ _) | (with_reducible refine Row.step ?_ (by with_reducible assumption)) | (with_reducible refine Row.set2' ?_ _ _; first | exact ⟨_, _, by with_reducible assumption⟩ | exact ⟨_, _, Row.alloc (by with_reducible assumption) _⟩ | exact ⟨_, _, Row.alloc (Row.alloc (by with_reducible assumption) _) _⟩) | (with_reducible refine Row.other ?_ (by first | omega | (simp; done) | (simp; omega)) _)))
  have c_e_0_2 := R_e_2.cell 0 rfl
  have c_e_1_2 := R_e_2.cell 1 rfl
  have c_e_2_2 := R_e_2.cell 2 rfl
  have l_e_2 := R_e_2.lt
  have R_f_2 : Row w2 (w.heap.size + 1) [.int .i64 y.op, .int .i64 y.n, .slice y.at' y.ks.length y.cap] := by (repeat' (first | (with_reducible assumption) | (with_reducible refine Row.new' _ _ _ (by first | rfl | (simp; done) | omega)) | (with_reducible refine Row.alloc ?_ _) | (with_reducible refine Row.drew ?_) | (with_reducible refine Row.drewN ?_ _) | (with_reducible refine Row.step ?_ (by with_reducible assumption)) | (with_reducible refine Row.set2' ?_ _ _; first | exact ⟨_, _, by with_reducible assumption⟩ | exact ⟨_, _, Row.alloc (by with_reducible assumption) _⟩ | exact ⟨_, _, Row.alloc (Row.alloc (by with_reducible assumption) _) _⟩) | (with_reducible refine Row.other ?_ (by first | omega | (simp; done) | (simp; omega)) _)))
  have c_f_0_2 := R_f_2.cell 0 rfl
  have c_f_1_2 := R_f_2.cell 1 rfl
  have c_f_2_2 := R_f_2.cell 2 rfl
  have l_f_2 := R_f_2.lt
  have HB2 : Below w.heap.size w w2 := by (repeat' (first | (with_reducible exact Below.refl _ _) | (with_reducible assumption) | (with_reducible exact Bw.out (by with_reducible assumption)) | (with_reducible refine bw_alloc ?_ _) | (with_reducible refine bw_step ?_ (by with_reducible assumption)) | (with_reducible refine Below.alloc ?_ ?_ _) | (with_reducible refine Below.drew ?_) | (with_reducible refine below_drewN ?_ _) | (with_reducible refine Below.setCell ?_ ?_ _) | (with_reducible refine below_step ?_ (by with_reducible assumption) ?_) | (with_reducible exact Nat.le_refl _) | omega | (simp; omega) | (simp; done)))
  clear R_e_1 c_e_0_1 c_e_1_1 c_e_2_1 R_f_1 c_f_0_1 c_f_1_1 c_f_2_1 hb1 HB1
  cases p1 with
  | false =>
    go_wp2_with fail
    go_ret
    refine ⟨(by first | rfl | exact ret_bool (by first | rfl | (simp; done) | (simp; omega))), ?_⟩
    (repeat' (first | (with_reducible exact Below.refl _ _) | (with_reducible assumption) | (with_reducible exact Bw.out (by with_reducible assumption)) | (with_reducible refine bw_alloc ?_ _) | (with_reducible refine bw_step ?_ (by with_reducible assumption)) | (with_reducible refine Below.alloc ?_ ?_ _) | (with_reducible refine Below.drew ?_) | (with_reducible refine below_drewN ?_ _) | (with_reducible refine Below.setCell ?_ ?_ _) | (with_reducible refine below_step ?_ (by with_reducible assumption) ?_) | (with_reducible exact Nat.le_refl _) | omega | (simp; omega) | (simp; done)))
  | true =>
    go_wp2_with fail
    refine (R_few_p y _ (HY.out.step HB2) p2 P2.out).mono ?_
    rintro e w3 ⟨rfl, hb3⟩
    have R_e_3 : Row w3 (w.heap.size) [.int .i64 x.op, .int .i64 x.n, .slice ad m x.cap] := by (repeat' (first | (with_reducible assumption) | (with_reducible refine Row.new' _ _ _ (by first | rfl | (simp; done) | omega)) | (with_reducible refine Row.alloc ?_ _) | (with_reducible refine Row.drew ?_) | (with_reducible refine Row.drewN ?_ _) | (with_reducible refine Row.step ?_ (by with_reducible assumption)) | (with_reducible refine Row.set2' ?_ _ _; first | exact ⟨_, _, by with_reducible assumption⟩ | exact ⟨_, _, Row.alloc (by with_reducible assumption) _⟩ | exact ⟨_, _, Row.alloc (Row.alloc (by with_reducible assumption) _) _⟩) | (with_reducible refine Row.other ?_ (by first | omega | (simp; done) | (simp; omega)) _)))
    have c_e_0_3 := R_e_3.cell 0 rfl
    have c_e_1_3 := R_e_3.cell 1 rfl
    have c_e_2_3 := R_e_3.cell 2 rfl
    have l_e_3 := R_e_3.lt
    have R_f_3 : Row w3 (w.heap.size + 1) [.int .i64 y.op, .int .i64 y.n, .slice y.at' y.ks.length y.cap] := by (repeat' (first | (with_reducible assumption) | (with_reducible refine Row.new' _ _ _ (by first | rfl | (simp; done) | omega)) | (with_reducible refine Row.alloc ?_ _) | (with_reducible refine Row.drew ?_) | (with_reducible refine Row.drewN ?_ _) | (with_reducible refine Row.step ?_ (by with_reducible assumption)) | (with_reducible refine Row.set2' ?_ _ _; first | exact ⟨_, _, by with_reducible assumption⟩ | exact ⟨_, _, Row.alloc (by with_reducible assumption) _⟩ | exact ⟨_, _, Row.alloc (Row.alloc (by with_reducible assumption) _) _⟩) | (with_reducible refine Row.other ?_ (by first | omega | (simp; done) | (simp; omega)) _)))
    have c_f_0_3 := R_f_3.cell 0 rfl
    have c_f_1_3 := R_f_3.cell 1 rfl
    have c_f_2_3 := R_f_3.cell 2 rfl
    have l_f_3 := R_f_3.lt
    have HB3 : Below w.heap.size w w3 := by (repeat' (first | (with_reducible exact Below.refl _ _) | (with_reducible assumption) | (with_reducible exact Bw.out (by with_reducible assumption)) | (with_reducible refine bw_alloc ?_ _) | (with_reducible refine bw_step ?_ (by with_reducible assumption)) | (with_reducible refine Below.alloc ?_ ?_ _) | (with_reducible refine Below.drew ?_) | (with_reducible refine below_drewN ?_ _) | (with_reducible refine Below.setCell ?_ ?_ _) | (with_reducible refine below_step ?_ (by with_reducible assumption) ?_) | (with_reducible exact Nat.le_refl _) | omega | (simp; omega) | (simp; done)))
    clear R_e_2 c_e_0_2 c_e_1_2 c_e_2_2 R_f_2 c_f_0_2 c_f_1_2 c_f_2_2 hb2 HB2
    cases p2 with
    | false =>
      go_wp2_with fail
      go_ret
      refine ⟨(by first | rfl | exact ret_bool (by first | rfl | (simp; done) | (simp; omega))), ?_⟩
      (repeat' (first | (with_reducible exact Below.refl _ _) | (with_reducible assumption) | (with_reducible exact Bw.out (by with_reducible assumption)) | (with_reducible refine bw_alloc ?_ _) | (with_reducible refine bw_step ?_ (by with_reducible assumption)) | (with_reducible refine Below.alloc ?_ ?_ _) | (with_reducible refine Below.drew ?_) | (with_reducible refine below_drewN ?_ _) | (with_reducible refine Below.setCell ?_ ?_ _) | (with_reducible refine below_step ?_ (by with_reducible assumption) ?_) | (with_reducible exact Nat.le_refl _) | omega | (simp; omega) | (simp; done)))
    | true =>
      go_wp2_with fail
      refine (H2.out _ (HX.out.step HB3)).mono ?_
      rintro e w4 ⟨rfl, hb4⟩
      have R_e_4 : Row w4 (w.heap.size) [.int .i64 x.op, .int .i64 x.n, .slice ad m x.cap] := by (repeat' (first | (with_reducible assumption) | (with_reducible refine Row.new' _ _ _ (by first | rfl | (simp; done) | omega)) | (with_reducible refine Row.alloc ?_ _) | (with_reducible refine Row.drew ?_) | (with_reducible refine Row.drewN ?_ _) | (with_reducible refine Row.step ?_ (by with_reducible assumption)) | (with_reducible refine Row.set2' ?_ _ _; first | exact ⟨_, _, by with_reducible assumption⟩ | exact ⟨_, _, Row.alloc (by with_reducible assumption) _⟩ | exact ⟨_, _, Row.alloc (Row.alloc (by with_reducible assumption) _) _⟩) | (with_reducible refine Row.other ?_ (by first | omega | (simp; done) | (simp; omega)) _)))
      have c_e_0_4 := R_e_4.cell 0 rfl
      have c_e_1_4 := R_e_4.cell 1 rfl
      have c_e_2_4 := R_e_4.cell 2 rfl
      have l_e_4 := R_e_4.lt
      have R_f_4 : Row w4 (w.heap.size + 1) [.int .i64 y.op, .int .i64 y.n, .slice y.at' y.ks.length y.cap] := by (repeat' (first | (with_reducible assumption) | (with_reducible refine Row.new' _ _ _ (by first | rfl | (simp; done) | omega)) | (with_reducible refine Row.alloc ?_ _) | (with_reducible refine Row.drew ?_) | (with_reducible refine Row.drewN ?_ _) | (with_reducible refine Row.step ?_ (by with_reducible assumption)) | (with_reducible refine Row.set2' ?_ _ _; first | exact ⟨_, _, by with_reducible assumption⟩ | exact ⟨_, _, Row.alloc (by with_reducible assumption) _⟩ | exact ⟨_, _, Row.alloc (Row.alloc (by with_reducible assumption) _) _⟩) | (with_reducible refine Row.other ?_ (by first | omega | (simp; done) | (simp; omega)) _)))
      have c_f_0_4 := R_f_4.cell 0 rfl
      have c_f_1_4 := R_f_4.cell 1 rfl
      have c_f_2_4 := R_f_4.cell 2 rfl
      have l_f_4 := R_f_4.lt
      have HB4 : Below w.heap.size w w4 := by (repeat' (first | (with_reducible exact Below.refl _ _) | (with_reducible assumption) | (with_reducible exact Bw.out (by with_reducible assumption)) | (with_reducible refine bw_alloc ?_ _) | (with_reducible refine bw_step ?_ (by with_reducible assumption)) | (with_reducible refine Below.alloc ?_ ?_ _) | (with_reducible refine Below.drew ?_) | (with_reducible refine below_drewN ?_ _) | (with_reducible refine Below.setCell ?_ ?_ _) | (with_reducible refine below_step ?_ (by with_reducible assumption) ?_) | (with_reducible exact Nat.le_refl _) | omega | (simp; omega) | (simp; done)))
      clear R_e_3 c_e_0_3 c_e_1_3 c_e_2_3 R_f_3 c_f_0_3 c_f_1_3 c_f_2_3 hb3 HB3
      cases p3 with
      | false =>
        go_wp2_with fail
        go_ret
        refine ⟨(by first | rfl | exact ret_bool (by first | rfl | (simp; done) | (simp; omega))), ?_⟩
        (repeat' (first | (with_reducible exact Below.refl _ _) | (with_reducible assumption) | (with_reducible exact Bw.out (by with_reducible assumption)) | (with_reducible refine bw_alloc ?_ _) | (with_reducible refine bw_step ?_ (by with_reducible assumption)) | (with_reducible refine Below.alloc ?_ ?_ _) | (with_reducible refine Below.drew ?_) | (with_reducible refine below_drewN ?_ _) | (with_reducible refine Below.setCell ?_ ?_ _) | (with_reducible refine below_step ?_ (by with_reducible assumption) ?_) | (with_reducible exact Nat.le_refl _) | omega | (simp; omega) | (simp; done)))
      | true =>
        by_cases hm0 : m = 0
        · have hm1 : ((m : Int) == 0) = true := by simp [hm0]
          clear hm0
          go_wp2_with fail
          go_ret
          refine ⟨(by first | rfl | exact ret_bool (by first | rfl | (simp; done) | (simp; omega))), ?_⟩
          (repeat' (first | (with_reducible exact Below.refl _ _) | (with_reducible assumption) | (with_reducible exact Bw.out (by with_reducible assumption)) | (with_reducible refine bw_alloc ?_ _) | (with_reducible refine bw_step ?_ (by with_reducible assumption)) | (with_reducible refine Below.alloc ?_ ?_ _) | (with_reducible refine Below.drew ?_) | (with_reducible refine below_drewN ?_ _) | (with_reducible refine Below.setCell ?_ ?_ _) | (with_reducible refine below_step ?_ (by with_reducible assumption) ?_) | (with_reducible exact Nat.le_refl _) | omega | (simp; omega) | (simp; done)))
        · have hm1 : ((m : Int) == 0) = false := by simpa using hm0
          have hm3 : m ≤ 3 := by have := nodeB_kids (ok_node (validE_ok P3.out)).1; have := HAM.out.2; omega
          have hmp : 0 < m := by omega
          obtain ⟨k, hk⟩ : ∃ k : Nat, q.tmod m = (k : Int) ∧ k < m := ⟨(q.tmod m).toNat, by rw [Int.tmod_eq_emod_of_nonneg q0]; have := Int.emod_nonneg q (show (m : Int) ≠ 0 by omega); omega, by rw [Int.tmod_eq_emod_of_nonneg q0]; have := Int.emod_lt_of_pos q (show (0 : Int) < m by omega); omega⟩
          obtain ⟨hk1, hk2⟩ := hk
          clear hm0
          obtain ⟨c, b, off, hc, hcin, e, hlb, c0, c1, c2⟩ := HX.out.kidAt HB4 (k := k) (by have := HAM.out.2; omega)
          have hh := HAM.out.1
          rw [e] at hh
          subst hh
          have HXA : Hid (∀ W, Below w4.heap.size w4 W → ExIn W (some ⟨b, off, none⟩) 0 x.ks) := fun W h => by
            have := ((HX.out.step HB4).step h).kids
            rwa [HAM.out.1] at this
          have HCI := Lib.hid (hcin.step HB4)
          have HBW4 := Lib.hid HB4
          clear hcin e
          go_upto_region 5 with fail
          go_cut [9] from 45 to 53 (fun v wx => ∃ O G cp : Nat, v = .pointer (some ⟨O, 0, none⟩) ∧ O ≠ G ∧ Row wx O [.int .i64 x.op, .int .i64 x.n, .slice (some ⟨G, 0, none⟩) m cp] ∧ OwnE wx w4.heap.size (.slice (some ⟨G, 0, none⟩) m cp) x.ks ∧ Below w4.heap.size w4 wx)
          case first =>
            have HS : Hid (∀ W, Below w4.heap.size w4 W → W.cell? ⟨w.heap.size, 0, none⟩ = some (.int .i64 x.op) ∧ W.cell? ⟨w.heap.size, 1, none⟩ = some (.int .i64 x.n) ∧ W.cell? ⟨w.heap.size, 2, none⟩ = some (.slice (some ⟨b, off, none⟩) m x.cap)) := fun W h => ⟨(R_e_4.step h).cell 0 rfl, (R_e_4.step h).cell 1 rfl, (R_e_4.step h).cell 2 rfl⟩
            have hbw5 : Below w4.heap.size w4 w4.drew := (Below.refl _ _).drew
            refine AnyJ.beginP (fun w' : World => w'.cell? ⟨w.heap.size, 0, none⟩ = some (.int .i64 x.op) ∧ w'.cell? ⟨w.heap.size, 1, none⟩ = some (.int .i64 x.n) ∧ w'.cell? ⟨w.heap.size, 2, none⟩ = some (.slice (some ⟨b, off, none⟩) m x.cap)) (fun j => decide (j ≤ 9)) (by kernel_rfl) (HS.out _ hbw5) (fun hS => ?_)
            obtain ⟨w5, hw5⟩ : ∃ X, World.drew w4 = X := ⟨_, rfl⟩
            rw [hw5] at hS hbw5 ⊢
            clear hw5
            refine AnyJ.takeD (i := 0) (d := some 45) (v := ?_) rfl (by kernel_rfl) (by kernel_rfl) (by kernel_rfl) (by kernel_rfl) (by kernel_rfl) (fun _ _ _ h => h) (Or.inl ⟨by kernel_rfl, ?_⟩) hS ?_
            rotate_left
            · intro w' hS
              obtain ⟨sF0, sF1, sF2⟩ := hS
              go_simp
              try with_reducible rfl
            refine AnyJ.takeD (i := 1) (d := some 46) (v := ?_) rfl (by kernel_rfl) (by kernel_rfl) (by kernel_rfl) (by kernel_rfl) (by kernel_rfl) (fun _ _ _ h => h) (Or.inl ⟨by kernel_rfl, ?_⟩) hS ?_
            rotate_left
            · intro w' hS
              obtain ⟨sF0, sF1, sF2⟩ := hS
              go_simp
              try with_reducible rfl
            refine AnyJ.takeD (i := 2) (d := some 47) (v := ?_) rfl (by kernel_rfl) (by kernel_rfl) (by kernel_rfl) (by kernel_rfl) (by kernel_rfl) (fun _ _ _ h => h) (Or.inl ⟨by kernel_rfl, ?_⟩) hS ?_
            rotate_left
            · intro w' hS
              obtain ⟨sF0, sF1, sF2⟩ := hS
              go_simp
              try with_reducible rfl
            refine AnyJ.takeD (i := 3) (d := some 48) (v := ?_) rfl (by kernel_rfl) (by kernel_rfl) (by kernel_rfl) (by kernel_rfl) (by kernel_rfl) (fun _ _ _ h => h) (Or.inl ⟨by kernel_rfl, ?_⟩) hS ?_
            rotate_left
            · intro w' hS
              obtain ⟨sF0, sF1, sF2⟩ := hS
              go_simp
              try with_reducible rfl
            refine AnyJ.takeD (i := 5) (d := some 50) (v := ?_) rfl (by kernel_rfl) (by kernel_rfl) (by kernel_rfl) (by kernel_rfl) (by kernel_rfl) (fun _ _ _ h => h) (Or.inl ⟨by kernel_rfl, ?_⟩) hS ?_
            rotate_left
            · intro w' hS
              obtain ⟨sF0, sF1, sF2⟩ := hS
              go_simp
              try with_reducible rfl
            refine AnyJ.takeD (i := 6) (d := some 51) (v := ?_) rfl (by kernel_rfl) (by kernel_rfl) (by kernel_rfl) (by kernel_rfl) (by kernel_rfl) (fun _ _ _ h => h) (Or.inl ⟨by kernel_rfl, ?_⟩) hS ?_
            rotate_left
            · intro w' hS
              obtain ⟨sF0, sF1, sF2⟩ := hS
              go_simp
              try with_reducible rfl
            clear hS
            refine AnyJ.two (i := 4) (j := 9) (by kernel_rfl) rfl rfl (fun Kz hKz => ?_) (fun Kz hKz => ?_)
            ·
              go_simp
              obtain ⟨w6, hww6⟩ : ∃ X, World.alloc w5 (.cells #[] 24) = X := ⟨_, rfl⟩
              rw [hww6]
              have hsw6 : Below w5.heap.size w5 w6 := by rw [← hww6]; exact (Below.refl _ _).alloc (Nat.le_refl _) _
              have hbw6 : Below w4.heap.size w4 w6 := hbw5.trans (hsw6.mono hbw5.size)
              have hzw6 : Hid (w6.heap.size = w5.heap.size + 1) := by show _ = _; rw [← hww6]; simp
              have hqw6 : w4.heap.size ≤ w5.heap.size := hbw5.size
              have how6 : OwnE w6 w4.heap.size (.slice (some ⟨w5.heap.size, 0, none⟩) 0 0) [] := by rw [← hww6]; exact OwnE.made _ _ hbw5.size
              clear hww6
              refine hKz _ _ (fun _ => HS.out _ hbw6) ?_
              clear hKz Kz
              refine AnyJ.two (i := 7) (j := 9) (by kernel_rfl) rfl rfl (fun Kz hKz => ?_) (fun Kz hKz => ?_)
              ·
                refine step_app_Es rfl (.tmp 49) (.tmp 51) 22 rfl Try.underlying22 w4.heap.size _ [] (by simp [Act.eval, Act.put]) how6 b off m x.cap x.ks (by simp [Act.eval, Act.put]) (HXA.out _ hbw6) HAM.out.2 hmp (by simp; omega) hbw6.size ?_
                intro G cp w7 hown hgr hor hlt
                rw [show ([] : List Ex).length + m = m from Nat.zero_add m] at hown ⊢
                rw [List.nil_append] at hown
                have hbw7 : Below w4.heap.size w4 w7 := hbw6.grown hgr hbw6.size (fun g e => (how6.lt e).1)
                refine hKz _ _ (fun _ => HS.out _ hbw7) ?_
                clear hKz Kz
                have hS := HS.out _ hbw7
                refine AnyJ.takeD (i := 8) (d := some 53) (v := ?_) rfl (by kernel_rfl) (by kernel_rfl) (by kernel_rfl) (by kernel_rfl) (by kernel_rfl) (fun _ _ _ h => h) (Or.inl ⟨by kernel_rfl, ?_⟩) hS ?_
                rotate_left
                · intro w' hS
                  obtain ⟨sF0, sF1, sF2⟩ := hS
                  go_simp
                  try with_reducible rfl
                clear hS
                refine AnyJ.one (i := 9) (by kernel_rfl) rfl (fun Kz hKz => ?_)
                go_simp
                obtain ⟨w8, hww8⟩ : ∃ X, World.alloc w7 (.cells #[.int .i64 0, .int .i64 0, .slice none 0 0] 24) = X := ⟨_, rfl⟩
                rw [hww8]
                have hsw8 : Below w7.heap.size w7 w8 := by rw [← hww8]; exact (Below.refl _ _).alloc (Nat.le_refl _) _
                have hbw8 : Below w4.heap.size w4 w8 := hbw7.trans (hsw8.mono hbw7.size)
                have hzw8 : Hid (w8.heap.size = w7.heap.size + 1) := by show _ = _; rw [← hww8]; simp
                have hqw8 : w4.heap.size ≤ w7.heap.size := hbw7.size
                have ROO : Row w8 w7.heap.size [.int .i64 0, .int .i64 0, .slice none 0 0] := by rw [← hww8]; exact Row.new' _ _ _ rfl
                clear hww8
                refine hKz _ _ (fun _ => HS.out _ hbw8) ?_
                clear hKz Kz
                replace hown := hown.step hsw8
                have hOG : w7.heap.size ≠ G := by omega
                have o0 := ROO.cell 0 rfl
                have o1 := ROO.cell 1 rfl
                have o2 := ROO.cell 2 rfl
                have u0 := ROO.frozen 0
                have u1 := ROO.frozen 1
                have u2 := ROO.frozen 2
                have ul := ROO.lt
                refine AnyJ.one (i := 10) (by kernel_rfl) rfl (fun Kz hKz => ?_)
                go_simp
                refine hKz _ _ (fun h => by cases h) ?_
                clear hKz Kz
                refine AnyJ.done (by kernel_rfl) ?_ _
                try simp only [Act.put, List.setIfInBounds_toArray, List.set_cons_zero, List.set_cons_succ]
                have hP := put_all ROO [.int .i64 x.op, .int .i64 x.n, .slice (some ⟨G, 0, none⟩) m cp] rfl
                simp only [Go.Proofs.Ytcmodmchnokmgaa.puts, Nat.reduceAdd, Nat.zero_add] at hP
                obtain ⟨RP, CP⟩ := hP
                have hOw := hown.ch CP (fun g e hgo => hOG (by rw [own_some] at e; cases e; exact hgo.symm))
                have hBw := CP.below hbw8 (fun z hz => by omega) hbw8.size
                clear o0 o1 o2 u0 u1 u2 ul
                go_wp2_with fail
                go_meet
                exact ⟨_, G, cp, rfl, hOG, RP, hOw, hBw⟩
              ·
                go_simp
                obtain ⟨w7, hww7⟩ : ∃ X, World.alloc w6 (.cells #[.int .i64 0, .int .i64 0, .slice none 0 0] 24) = X := ⟨_, rfl⟩
                rw [hww7]
                have hsw7 : Below w6.heap.size w6 w7 := by rw [← hww7]; exact (Below.refl _ _).alloc (Nat.le_refl _) _
                have hbw7 : Below w4.heap.size w4 w7 := hbw6.trans (hsw7.mono hbw6.size)
                have hzw7 : Hid (w7.heap.size = w6.heap.size + 1) := by show _ = _; rw [← hww7]; simp
                have hqw7 : w4.heap.size ≤ w6.heap.size := hbw6.size
                have ROO : Row w7 w6.heap.size [.int .i64 0, .int .i64 0, .slice none 0 0] := by rw [← hww7]; exact Row.new' _ _ _ rfl
                clear hww7
                refine hKz _ _ (fun _ => HS.out _ hbw7) ?_
                clear hKz Kz
                refine AnyJ.one (i := 7) (by kernel_rfl) rfl (fun Kz hKz => ?_)
                have how7 := how6.step hsw7
                refine step_app_Es rfl (.tmp 49) (.tmp 51) 22 rfl Try.underlying22 w4.heap.size _ [] (by simp [Act.eval, Act.put]) how7 b off m x.cap x.ks (by simp [Act.eval, Act.put]) (HXA.out _ hbw7) HAM.out.2 hmp (by simp; omega) hbw7.size ?_
                intro G cp w8 hown hgr hor hlt
                rw [show ([] : List Ex).length + m = m from Nat.zero_add m] at hown ⊢
                rw [List.nil_append] at hown
                have hbw8 : Below w4.heap.size w4 w8 := hbw7.grown hgr hbw7.size (fun g e => (how7.lt e).1)
                refine hKz _ _ (fun _ => HS.out _ hbw8) ?_
                clear hKz Kz
                have hOG : w6.heap.size ≠ G := by
                  have h6 := hzw6.out
                  have h7 := hzw7.out
                  rcases hor with e | e
                  · rw [own_some] at e; injection e; omega
                  · omega
                replace ROO := ROO.of_block (hgr.block _ ROO.lt (fun e => by have h6 := hzw6.out; rw [own_some] at e; injection e; omega))
                have hS := HS.out _ hbw8
                refine AnyJ.takeD (i := 8) (d := some 53) (v := ?_) rfl (by kernel_rfl) (by kernel_rfl) (by kernel_rfl) (by kernel_rfl) (by kernel_rfl) (fun _ _ _ h => h) (Or.inl ⟨by kernel_rfl, ?_⟩) hS ?_
                rotate_left
                · intro w' hS
                  obtain ⟨sF0, sF1, sF2⟩ := hS
                  go_simp
                  try with_reducible rfl
                clear hS
                have o0 := ROO.cell 0 rfl
                have o1 := ROO.cell 1 rfl
                have o2 := ROO.cell 2 rfl
                have u0 := ROO.frozen 0
                have u1 := ROO.frozen 1
                have u2 := ROO.frozen 2
                have ul := ROO.lt
                refine AnyJ.one (i := 10) (by kernel_rfl) rfl (fun Kz hKz => ?_)
                go_simp
                refine hKz _ _ (fun h => by cases h) ?_
                clear hKz Kz
                refine AnyJ.done (by kernel_rfl) ?_ _
                try simp only [Act.put, List.setIfInBounds_toArray, List.set_cons_zero, List.set_cons_succ]
                have hP := put_all ROO [.int .i64 x.op, .int .i64 x.n, .slice (some ⟨G, 0, none⟩) m cp] rfl
                simp only [Go.Proofs.Ytcmodmchnokmgaa.puts, Nat.reduceAdd, Nat.zero_add] at hP
                obtain ⟨RP, CP⟩ := hP
                have hOw := hown.ch CP (fun g e hgo => hOG (by rw [own_some] at e; cases e; exact hgo.symm))
                have hBw := CP.below hbw8 (fun z hz => by omega) hbw8.size
                clear o0 o1 o2 u0 u1 u2 ul
                go_wp2_with fail
                go_meet
                exact ⟨_, G, cp, rfl, hOG, RP, hOw, hBw⟩
            ·
              go_simp
              obtain ⟨w6, hww6⟩ : ∃ X, World.alloc w5 (.cells #[.int .i64 0, .int .i64 0, .slice none 0 0] 24) = X := ⟨_, rfl⟩
              rw [hww6]
              have hsw6 : Below w5.heap.size w5 w6 := by rw [← hww6]; exact (Below.refl _ _).alloc (Nat.le_refl _) _
              have hbw6 : Below w4.heap.size w4 w6 := hbw5.trans (hsw6.mono hbw5.size)
              have hzw6 : Hid (w6.heap.size = w5.heap.size + 1) := by show _ = _; rw [← hww6]; simp
              have hqw6 : w4.heap.size ≤ w5.heap.size := hbw5.size
              have ROO : Row w6 w5.heap.size [.int .i64 0, .int .i64 0, .slice none 0 0] := by rw [← hww6]; exact Row.new' _ _ _ rfl
              clear hww6
              refine hKz _ _ (fun _ => HS.out _ hbw6) ?_
              clear hKz Kz
              refine AnyJ.one (i := 4) (by kernel_rfl) rfl (fun Kz hKz => ?_)
              go_simp
              obtain ⟨w7, hww7⟩ : ∃ X, World.alloc w6 (.cells #[] 24) = X := ⟨_, rfl⟩
              rw [hww7]
              have hsw7 : Below w6.heap.size w6 w7 := by rw [← hww7]; exact (Below.refl _ _).alloc (Nat.le_refl _) _
              have hbw7 : Below w4.heap.size w4 w7 := hbw6.trans (hsw7.mono hbw6.size)
              have hzw7 : Hid (w7.heap.size = w6.heap.size + 1) := by show _ = _; rw [← hww7]; simp
              have hqw7 : w4.heap.size ≤ w6.heap.size := hbw6.size
              have how7 : OwnE w7 w4.heap.size (.slice (some ⟨w6.heap.size, 0, none⟩) 0 0) [] := by rw [← hww7]; exact OwnE.made _ _ hbw6.size
              clear hww7
              refine hKz _ _ (fun _ => HS.out _ hbw7) ?_
              clear hKz Kz
              refine AnyJ.one (i := 7) (by kernel_rfl) rfl (fun Kz hKz => ?_)
              replace ROO := ROO.step hsw7
              refine step_app_Es rfl (.tmp 49) (.tmp 51) 22 rfl Try.underlying22 w4.heap.size _ [] (by simp [Act.eval, Act.put]) how7 b off m x.cap x.ks (by simp [Act.eval, Act.put]) (HXA.out _ hbw7) HAM.out.2 hmp (by simp; omega) hbw7.size ?_
              intro G cp w8 hown hgr hor hlt
              rw [show ([] : List Ex).length + m = m from Nat.zero_add m] at hown ⊢
              rw [List.nil_append] at hown
              have hbw8 : Below w4.heap.size w4 w8 := hbw7.grown hgr hbw7.size (fun g e => (how7.lt e).1)
              refine hKz _ _ (fun _ => HS.out _ hbw8) ?_
              clear hKz Kz
              have hOG : w5.heap.size ≠ G := by
                have h6 := hzw6.out
                have h7 := hzw7.out
                rcases hor with e | e
                · rw [own_some] at e; injection e; omega
                · omega
              replace ROO := ROO.of_block (hgr.block _ ROO.lt (fun e => by have h6 := hzw6.out; rw [own_some] at e; injection e; omega))
              have hS := HS.out _ hbw8
              refine AnyJ.takeD (i := 8) (d := some 53) (v := ?_) rfl (by kernel_rfl) (by kernel_rfl) (by kernel_rfl) (by kernel_rfl) (by kernel_rfl) (fun _ _ _ h => h) (Or.inl ⟨by kernel_rfl, ?_⟩) hS ?_
              rotate_left
              · intro w' hS
                obtain ⟨sF0, sF1, sF2⟩ := hS
                go_simp
                try with_reducible rfl
              clear hS
              have o0 := ROO.cell 0 rfl
              have o1 := ROO.cell 1 rfl
              have o2 := ROO.cell 2 rfl
              have u0 := ROO.frozen 0
              have u1 := ROO.frozen 1
              have u2 := ROO.frozen 2
              have ul := ROO.lt
              refine AnyJ.one (i := 10) (by kernel_rfl) rfl (fun Kz hKz => ?_)
              go_simp
              refine hKz _ _ (fun h => by cases h) ?_
              clear hKz Kz
              refine AnyJ.done (by kernel_rfl) ?_ _
              try simp only [Act.put, List.setIfInBounds_toArray, List.set_cons_zero, List.set_cons_succ]
              have hP := put_all ROO [.int .i64 x.op, .int .i64 x.n, .slice (some ⟨G, 0, none⟩) m cp] rfl
              simp only [Go.Proofs.Ytcmodmchnokmgaa.puts, Nat.reduceAdd, Nat.zero_add] at hP
              obtain ⟨RP, CP⟩ := hP
              have hOw := hown.ch CP (fun g e hgo => hOG (by rw [own_some] at e; cases e; exact hgo.symm))
              have hBw := CP.below hbw8 (fun z hz => by omega) hbw8.size
              clear o0 o1 o2 u0 u1 u2 ul
              go_wp2_with fail
              go_meet
              exact ⟨_, G, cp, rfl, hOG, RP, hOw, hBw⟩
          case' rest =>
            obtain ⟨O, G, cp, rfl, hOG, RO, HOW, hb5⟩ := hcut
            obtain ⟨w5, hw5⟩ : ∃ wd, wd = wc := ⟨_, rfl⟩
            subst hw5
            have R_f_5 : Row w5 (w.heap.size + 1) [.int .i64 y.op, .int .i64 y.n, .slice y.at' y.ks.length y.cap] := by (repeat' (first | (with_reducible assumption) | (with_reducible refine Row.new' _ _ _ (by first | rfl | (simp; done) | omega)) | (with_reducible refine Row.alloc ?_ _) | (with_reducible refine Row.drew ?_) | (with_reducible refine Row.drewN ?_ _) | (with_reducible refine Row.step ?_ (by with_reducible assumption)) | (with_reducible refine Row.set2' ?_ _ _; first | exact ⟨_, _, by with_reducible assumption⟩ | exact ⟨_, _, Row.alloc (by with_reducible assumption) _⟩ | exact ⟨_, _, Row.alloc (Row.alloc (by with_reducible assumption) _) _⟩) | (with_reducible refine Row.other ?_ (by first | omega | (simp; done) | (simp; omega)) _)))
            have c_f_0_5 := R_f_5.cell 0 rfl
            have c_f_1_5 := R_f_5.cell 1 rfl
            have c_f_2_5 := R_f_5.cell 2 rfl
            have l_f_5 := R_f_5.lt
            have R_e_5 : Row w5 (w.heap.size) [.int .i64 x.op, .int .i64 x.n, .slice (some ⟨b, off, none⟩) m x.cap] := by (repeat' (first | (with_reducible assumption) | (with_reducible refine Row.new' _ _ _ (by first | rfl | (simp; done) | omega)) | (with_reducible refine Row.alloc ?_ _) | (with_reducible refine Row.drew ?_) | (with_reducible refine Row.drewN ?_ _) | (with_reducible refine Row.step ?_ (by with_reducible assumption)) | (with_reducible refine Row.set2' ?_ _ _; first | exact ⟨_, _, by with_reducible assumption⟩ | exact ⟨_, _, Row.alloc (by with_reducible assumption) _⟩ | exact ⟨_, _, Row.alloc (Row.alloc (by with_reducible assumption) _) _⟩) | (with_reducible refine Row.other ?_ (by first | omega | (simp; done) | (simp; omega)) _)))
            have c_e_0_5 := R_e_5.cell 0 rfl
            have c_e_1_5 := R_e_5.cell 1 rfl
            have c_e_2_5 := R_e_5.cell 2 rfl
            have l_e_5 := R_e_5.lt
            have HB5 : Below w.heap.size w w5 := by (repeat' (first | (with_reducible exact Below.refl _ _) | (with_reducible assumption) | (with_reducible exact Bw.out (by with_reducible assumption)) | (with_reducible refine bw_alloc ?_ _) | (with_reducible refine bw_step ?_ (by with_reducible assumption)) | (with_reducible refine Below.alloc ?_ ?_ _) | (with_reducible refine Below.drew ?_) | (with_reducible refine below_drewN ?_ _) | (with_reducible refine Below.setCell ?_ ?_ _) | (with_reducible refine below_step ?_ (by with_reducible assumption) ?_) | (with_reducible exact Nat.le_refl _) | omega | (simp; omega) | (simp; done)))
            clear R_e_4 c_e_0_4 c_e_1_4 c_e_2_4 R_f_4 c_f_0_4 c_f_1_4 c_f_2_4 hb4 HB4
            obtain ⟨g', eg, _, hcl⟩ := HOW.cells hc.out
            cases eg
            have g0 : w5.cell? ⟨G, k * 3, none⟩ = some (.int .i64 c.op) := by have := hcl 0 _ rfl; simpa using this
            have g1 : w5.cell? ⟨G, k * 3 + 1, none⟩ = some (.int .i64 c.n) := by have := hcl 1 _ rfl; simpa using this
            have g2 : w5.cell? ⟨G, k * 3 + 2, none⟩ = some (.slice c.at' c.ks.length c.cap) := by have := hcl 2 _ rfl; simpa using this
            have f0 := HOW.frozen (k * 3)
            have f1 := HOW.frozen (k * 3 + 1)
            have f2 := HOW.frozen (k * 3 + 2)
            have lG : G < w5.heap.size := (HOW.lt rfl).2
            have lO := RO.lt
            have o0 := RO.cell 0 rfl
            have o1 := RO.cell 1 rfl
            have o2 := RO.cell 2 rfl
            have lGW : w4.heap.size ≤ G := (HOW.lt rfl).1
            clear hcl
            go_upto_region 7 with fail
            have hst := HOW.store HAM.out.2 hk2 y
            simp only [Go.Proofs.Ytcmodmchnokmgaa.puts, Ex.cells, Nat.add_assoc, Nat.reduceAdd] at hst
            obtain ⟨w6, hw6⟩ : ∃ X, World.setCell (World.setCell (World.setCell w5 ⟨G, k * 3, none⟩ (.int .i64 y.op)) ⟨G, k * 3 + 1, none⟩ (.int .i64 y.n)) ⟨G, k * 3 + 2, none⟩ (.slice y.at' y.ks.length y.cap) = X := ⟨_, rfl⟩
            rw [hw6] at hst ⊢
            obtain ⟨HOW6, hC⟩ := hst
            have hb6 : Below w4.heap.size w5 w6 := hC.below ((Below.refl w5.heap.size w5).mono hb5.size) (fun z hz => by omega) hb5.size
            have R_o_6 : Row w6 O [.int .i64 x.op, .int .i64 x.n, .slice (some ⟨G, 0, none⟩) m cp] := RO.ch hC (by omega)
            obtain ⟨z, hz⟩ : ∃ z, z = Ex.node x.op x.n (some ⟨G, 0, none⟩) cp (x.ks.set k y) := ⟨_, rfl⟩
            have z1 : z.op = x.op := by rw [hz]; rfl
            have z2 : z.n = x.n := by rw [hz]; rfl
            have z3 : z.at' = some ⟨G, 0, none⟩ := by rw [hz]; rfl
            have z4 : z.ks.length = m := by rw [hz]; show (x.ks.set k y).length = m; rw [List.length_set]; exact HAM.out.2
            have z5 : z.cap = cp := by rw [hz]; rfl
            have z6 : z.ks = x.ks.set k y := by rw [hz]; rfl
            have hkin : ∀ u ∈ x.ks.set k y, u.In w6 := fun u hu => by
              have h4 : u.In w4 := by
                rcases List.mem_or_eq_of_mem_set hu with h | h
                · obtain ⟨j, hj, e⟩ := List.getElem_of_mem h
                  have := ((HX.out.step HBW4.out).kid (j := j) (by rw [List.getElem?_eq_getElem hj, e])).1
                  exact this
                · rw [h]; exact HY.out.step HBW4.out
              exact Ex.Off.step (fun b hb hne => hC.2.2.2.2 b hb hne) (Ex.Off.far lGW h4) (h4.step hb5)
            obtain ⟨adx, cpx, ex, _, hx1, hx2⟩ := HOW6.shape m (by rw [List.length_set]; exact HAM.out.2)
            cases ex
            have HZ : Hid (z.In w6) := by
              show z.In w6
              rw [hz]
              exact Ex.In.of (x := .node x.op x.n (some ⟨G, 0, none⟩) cp (x.ks.set k y)) ⟨by show (x.ks.set k y).length ≤ cp; rw [List.length_set, HAM.out.2]; exact hx1, hx2⟩ (HOW6.sl hkin)
            obtain ⟨p4, hp⟩ : ∃ p, validE z = p := ⟨_, rfl⟩
            have P4 := Lib.hid hp
            clear hp
            have HC8 := fun (w : World) (h : z.In w) => valid8_p z w h p4 P4.out
            have HCI2 := fun (w : World) (h : z.In w) (V E : Int) (hV : inferV z = V) (hE : inferE z = E) => infer_p z w h V E hV hE
            rw [z1, z2, z3, z4, z5] at HC8 HCI2
            have H5 := Lib.hid HC8
            have H6 := Lib.hid HCI2
            have HZ6 := Lib.hid z6
            have HZ1 := Lib.hid z1
            clear HC8 HCI2 z1 z2 z3 z4 z5 z6 hz hkin HOW6 HOW g0 g1 g2 f0 f1 f2 RO lG lO o0 o1 o2 hx1 hx2
            have R_f_6 : Row w6 (w.heap.size + 1) [.int .i64 y.op, .int .i64 y.n, .slice y.at' y.ks.length y.cap] := R_f_5.below hb6 (by omega)
            have c_f_0_6 := R_f_6.cell 0 rfl
            have c_f_1_6 := R_f_6.cell 1 rfl
            have c_f_2_6 := R_f_6.cell 2 rfl
            have l_f_6 := R_f_6.lt
            have R_e_6 : Row w6 (w.heap.size) [.int .i64 x.op, .int .i64 x.n, .slice (some ⟨b, off, none⟩) m x.cap] := R_e_5.below hb6 (by omega)
            have c_e_0_6 := R_e_6.cell 0 rfl
            have c_e_1_6 := R_e_6.cell 1 rfl
            have c_e_2_6 := R_e_6.cell 2 rfl
            have l_e_6 := R_e_6.lt
            have HB6 : Below w.heap.size w w6 := HB5.trans (hb6.mono (by omega))
            clear R_f_5 c_f_0_5 c_f_1_5 c_f_2_5 R_e_5 c_e_0_5 c_e_1_5 c_e_2_5 hb5 HB5
            clear hC hw6
            clear c0 c1 c2
            obtain ⟨c', b', off', hc', hcin', e', hlb', c0, c1, c2⟩ := HX.out.kidAt HB6 (k := k) (by have := HAM.out.2; omega)
            obtain rfl : c' = c := Option.some.inj (hc'.out.symm.trans hc.out)
            have hh := HAM.out.1
            rw [e'] at hh
            cases hh
            have HCN := Lib.hid hcin'
            clear hcin' e' hlb hc'
            obtain ⟨V1, hp⟩ : ∃ p, inferV c' = p := ⟨_, rfl⟩
            have HV1 := Lib.hid hp
            clear hp
            obtain ⟨E1, hp⟩ : ∃ p, inferE c' = p := ⟨_, rfl⟩
            have HE1 := Lib.hid hp
            clear hp
            obtain ⟨V2, hp⟩ : ∃ p, inferV y = p := ⟨_, rfl⟩
            have HV2 := Lib.hid hp
            clear hp
            obtain ⟨E2, hp⟩ : ∃ p, inferE y = p := ⟨_, rfl⟩
            have HE2 := Lib.hid hp
            clear hp
            have lO6 := R_o_6.lt
            have oc0 := R_o_6.cell 0 rfl
            have oc1 := R_o_6.cell 1 rfl
            have oc2 := R_o_6.cell 2 rfl
            go_wp2_with fail
            refine (infer_p c' _ (HCN.out.step HB6) V1 E1 HV1.out HE1.out).mono ?_
            rintro e w7 ⟨rfl, hb7⟩
            have R_f_7 : Row w7 (w.heap.size + 1) [.int .i64 y.op, .int .i64 y.n, .slice y.at' y.ks.length y.cap] := by (repeat' (first | (with_reducible assumption) | (with_reducible refine Row.new' _ _ _ (by first | rfl | (simp; done) | omega)) | (with_reducible refine Row.alloc ?_ _) | (with_reducible refine Row.drew ?_) | (with_reducible refine Row.drewN ?_ _) | (with_reducible refine Row.step ?_ (by with_reducible assumption)) | (with_reducible refine Row.set2' ?_ _ _; first | exact ⟨_, _, by with_reducible assumption⟩ | exact ⟨_, _, Row.alloc (by with_reducible assumption) _⟩ | exact ⟨_, _, Row.alloc (Row.alloc (by with_reducible assumption) _) _⟩) | (with_reducible refine Row.other ?_ (by first | omega | (simp; done) | (simp; omega)) _)))
            have c_f_0_7 := R_f_7.cell 0 rfl
            have c_f_1_7 := R_f_7.cell 1 rfl
            have c_f_2_7 := R_f_7.cell 2 rfl
            have l_f_7 := R_f_7.lt
            have R_e_7 : Row w7 (w.heap.size) [.int .i64 x.op, .int .i64 x.n, .slice (some ⟨b, off, none⟩) m x.cap] := by (repeat' (first | (with_reducible assumption) | (with_reducible refine Row.new' _ _ _ (by first | rfl | (simp; done) | omega)) | (with_reducible refine Row.alloc ?_ _) | (with_reducible refine Row.drew ?_) | (with_reducible refine Row.drewN ?_ _) | (with_reducible refine Row.step ?_ (by with_reducible assumption)) | (with_reducible refine Row.set2' ?_ _ _; first | exact ⟨_, _, by with_reducible assumption⟩ | exact ⟨_, _, Row.alloc (by with_reducible assumption) _⟩ | exact ⟨_, _, Row.alloc (Row.alloc (by with_reducible assumption) _) _⟩) | (with_reducible refine Row.other ?_ (by first | omega | (simp; done) | (simp; omega)) _)))
            have c_e_0_7 := R_e_7.cell 0 rfl
            have c_e_1_7 := R_e_7.cell 1 rfl
            have c_e_2_7 := R_e_7.cell 2 rfl
            have l_e_7 := R_e_7.lt
            have R_o_7 : Row w7 (O) [.int .i64 x.op, .int .i64 x.n, .slice (some ⟨G, 0, none⟩) m cp] := by (repeat' (first | (with_reducible assumption) | (with_reducible refine Row.new' _ _ _ (by first | rfl | (simp; done) | omega)) | (with_reducible refine Row.alloc ?_ _) | (with_reducible refine Row.drew ?_) | (with_reducible refine Row.drewN ?_ _) | (with_reducible refine Row.step ?_ (by with_reducible assumption)) | (with_reducible refine Row.set2' ?_ _ _; first | exact ⟨_, _, by with_reducible assumption⟩ | exact ⟨_, _, Row.alloc (by with_reducible assumption) _⟩ | exact ⟨_, _, Row.alloc (Row.alloc (by with_reducible assumption) _) _⟩) | (with_reducible refine Row.other ?_ (by first | omega | (simp; done) | (simp; omega)) _)))
            have c_o_0_7 := R_o_7.cell 0 rfl
            have c_o_1_7 := R_o_7.cell 1 rfl
            have c_o_2_7 := R_o_7.cell 2 rfl
            have l_o_7 := R_o_7.lt
            have HB7 : Below w.heap.size w w7 := by (repeat' (first | (with_reducible exact Below.refl _ _) | (with_reducible assumption) | (with_reducible exact Bw.out (by with_reducible assumption)) | (with_reducible refine bw_alloc ?_ _) | (with_reducible refine bw_step ?_ (by with_reducible assumption)) | (with_reducible refine Below.alloc ?_ ?_ _) | (with_reducible refine Below.drew ?_) | (with_reducible refine below_drewN ?_ _) | (with_reducible refine Below.setCell ?_ ?_ _) | (with_reducible refine below_step ?_ (by with_reducible assumption) ?_) | (with_reducible exact Nat.le_refl _) | omega | (simp; omega) | (simp; done)))
            clear R_f_6 c_f_0_6 c_f_1_6 c_f_2_6 R_e_6 c_e_0_6 c_e_1_6 c_e_2_6 hb6 HB6
            clear c0 c1 c2 oc0 oc1 oc2
            have HB67 := Lib.hid hb7
            go_wp2_with fail
            refine (infer_p y _ (HY.out.step HB7) V2 E2 HV2.out HE2.out).mono ?_
            rintro e w8 ⟨rfl, hb8⟩
            have R_f_8 : Row w8 (w.heap.size + 1) [.int .i64 y.op, .int .i64 y.n, .slice y.at' y.ks.length y.cap] := by (repeat' (first | (with_reducible assumption) | (with_reducible refine Row.new' _ _ _ (by first | rfl | (simp; done) | omega)) | (with_reducible refine Row.alloc ?_ _) | (with_reducible refine Row.drew ?_) | (with_reducible refine Row.drewN ?_ _) | (with_reducible refine Row.step ?_ (by with_reducible assumption)) | (with_reducible refine Row.set2' ?_ _ _; first | exact ⟨_, _, by with_reducible assumption⟩ | exact ⟨_, _, Row.alloc (by with_reducible assumption) _⟩ | exact ⟨_, _, Row.alloc (Row.alloc (by with_reducible assumption) _) _⟩) | (with_reducible refine Row.other ?_ (by first | omega | (simp; done) | (simp; omega)) _)))
            have c_f_0_8 := R_f_8.cell 0 rfl
            have c_f_1_8 := R_f_8.cell 1 rfl
            have c_f_2_8 := R_f_8.cell 2 rfl
            have l_f_8 := R_f_8.lt
            have R_e_8 : Row w8 (w.heap.size) [.int .i64 x.op, .int .i64 x.n, .slice (some ⟨b, off, none⟩) m x.cap] := by (repeat' (first | (with_reducible assumption) | (with_reducible refine Row.new' _ _ _ (by first | rfl | (simp; done) | omega)) | (with_reducible refine Row.alloc ?_ _) | (with_reducible refine Row.drew ?_) | (with_reducible refine Row.drewN ?_ _) | (with_reducible refine Row.step ?_ (by with_reducible assumption)) | (with_reducible refine Row.set2' ?_ _ _; first | exact ⟨_, _, by with_reducible assumption⟩ | exact ⟨_, _, Row.alloc (by with_reducible assumption) _⟩ | exact ⟨_, _, Row.alloc (Row.alloc (by with_reducible assumption) _) _⟩) | (with_reducible refine Row.other ?_ (by first | omega | (simp; done) | (simp; omega)) _)))
            have c_e_0_8 := R_e_8.cell 0 rfl
            have c_e_1_8 := R_e_8.cell 1 rfl
            have c_e_2_8 := R_e_8.cell 2 rfl
            have l_e_8 := R_e_8.lt
            have R_o_8 : Row w8 (O) [.int .i64 x.op, .int .i64 x.n, .slice (some ⟨G, 0, none⟩) m cp] := by (repeat' (first | (with_reducible assumption) | (with_reducible refine Row.new' _ _ _ (by first | rfl | (simp; done) | omega)) | (with_reducible refine Row.alloc ?_ _) | (with_reducible refine Row.drew ?_) | (with_reducible refine Row.drewN ?_ _) | (with_reducible refine Row.step ?_ (by with_reducible assumption)) | (with_reducible refine Row.set2' ?_ _ _; first | exact ⟨_, _, by with_reducible assumption⟩ | exact ⟨_, _, Row.alloc (by with_reducible assumption) _⟩ | exact ⟨_, _, Row.alloc (Row.alloc (by with_reducible assumption) _) _⟩) | (with_reducible refine Row.other ?_ (by first | omega | (simp; done) | (simp; omega)) _)))
            have c_o_0_8 := R_o_8.cell 0 rfl
            have c_o_1_8 := R_o_8.cell 1 rfl
            have c_o_2_8 := R_o_8.cell 2 rfl
            have l_o_8 := R_o_8.lt
            have HB8 : Below w.heap.size w w8 := by (repeat' (first | (with_reducible exact Below.refl _ _) | (with_reducible assumption) | (with_reducible exact Bw.out (by with_reducible assumption)) | (with_reducible refine bw_alloc ?_ _) | (with_reducible refine bw_step ?_ (by with_reducible assumption)) | (with_reducible refine Below.alloc ?_ ?_ _) | (with_reducible refine Below.drew ?_) | (with_reducible refine below_drewN ?_ _) | (with_reducible refine Below.setCell ?_ ?_ _) | (with_reducible refine below_step ?_ (by with_reducible assumption) ?_) | (with_reducible exact Nat.le_refl _) | omega | (simp; omega) | (simp; done)))
            clear R_f_7 c_f_0_7 c_f_1_7 c_f_2_7 R_e_7 c_e_0_7 c_e_1_7 c_e_2_7 R_o_7 c_o_0_7 c_o_1_7 c_o_2_7 hb7 HB7
            by_cases hE1 : E1 = 0
            · subst hE1
              by_cases hE2 : E2 = 0
              · subst hE2
                by_cases hV : V1 = V2
                · subst hV
                  have HB68 : Below w6.heap.size w6 w8 := HB67.out.trans (hb8.mono HB67.out.size)
                  have HB68h := Lib.hid HB68
                  clear HB68
                  go_wp2_with fail
                  refine (H5.out _ (HZ.out.step HB68h.out)).mono ?_
                  rintro e w9 ⟨rfl, hb9⟩
                  have R_f_9 : Row w9 (w.heap.size + 1) [.int .i64 y.op, .int .i64 y.n, .slice y.at' y.ks.length y.cap] := by (repeat' (first | (with_reducible assumption) | (with_reducible refine Row.new' _ _ _ (by first | rfl | (simp; done) | omega)) | (with_reducible refine Row.alloc ?_ _) | (with_reducible refine Row.drew ?_) | (with_reducible refine Row.drewN ?_ _) | (with_reducible refine Row.step ?_ (by with_reducible assumption)) | (with_reducible refine Row.set2' ?_ _ _; first | exact ⟨_, _, by with_reducible assumption⟩ | exact ⟨_, _, Row.alloc (by with_reducible assumption) _⟩ | exact ⟨_, _, Row.alloc (Row.alloc (by with_reducible assumption) _) _⟩) | (with_reducible refine Row.other ?_ (by first | omega | (simp; done) | (simp; omega)) _)))
                  have c_f_0_9 := R_f_9.cell 0 rfl
                  have c_f_1_9 := R_f_9.cell 1 rfl
                  have c_f_2_9 := R_f_9.cell 2 rfl
                  have l_f_9 := R_f_9.lt
                  have R_e_9 : Row w9 (w.heap.size) [.int .i64 x.op, .int .i64 x.n, .slice (some ⟨b, off, none⟩) m x.cap] := by (repeat' (first | (with_reducible assumption) | (with_reducible refine Row.new' _ _ _ (by first | rfl | (simp; done) | omega)) | (with_reducible refine Row.alloc ?_ _) | (with_reducible refine Row.drew ?_) | (with_reducible refine Row.drewN ?_ _) | (with_reducible refine Row.step ?_ (by with_reducible assumption)) | (with_reducible refine Row.set2' ?_ _ _; first | exact ⟨_, _, by with_reducible assumption⟩ | exact ⟨_, _, Row.alloc (by with_reducible assumption) _⟩ | exact ⟨_, _, Row.alloc (Row.alloc (by with_reducible assumption) _) _⟩) | (with_reducible refine Row.other ?_ (by first | omega | (simp; done) | (simp; omega)) _)))
                  have c_e_0_9 := R_e_9.cell 0 rfl
                  have c_e_1_9 := R_e_9.cell 1 rfl
                  have c_e_2_9 := R_e_9.cell 2 rfl
                  have l_e_9 := R_e_9.lt
                  have R_o_9 : Row w9 (O) [.int .i64 x.op, .int .i64 x.n, .slice (some ⟨G, 0, none⟩) m cp] := by (repeat' (first | (with_reducible assumption) | (with_reducible refine Row.new' _ _ _ (by first | rfl | (simp; done) | omega)) | (with_reducible refine Row.alloc ?_ _) | (with_reducible refine Row.drew ?_) | (with_reducible refine Row.drewN ?_ _) | (with_reducible refine Row.step ?_ (by with_reducible assumption)) | (with_reducible refine Row.set2' ?_ _ _; first | exact ⟨_, _, by with_reducible assumption⟩ | exact ⟨_, _, Row.alloc (by with_reducible assumption) _⟩ | exact ⟨_, _, Row.alloc (Row.alloc (by with_reducible assumption) _) _⟩) | (with_reducible refine Row.other ?_ (by first | omega | (simp; done) | (simp; omega)) _)))
                  have c_o_0_9 := R_o_9.cell 0 rfl
                  have c_o_1_9 := R_o_9.cell 1 rfl
                  have c_o_2_9 := R_o_9.cell 2 rfl
                  have l_o_9 := R_o_9.lt
                  have HB9 : Below w.heap.size w w9 := by (repeat' (first | (with_reducible exact Below.refl _ _) | (with_reducible assumption) | (with_reducible exact Bw.out (by with_reducible assumption)) | (with_reducible refine bw_alloc ?_ _) | (with_reducible refine bw_step ?_ (by with_reducible assumption)) | (with_reducible refine Below.alloc ?_ ?_ _) | (with_reducible refine Below.drew ?_) | (with_reducible refine below_drewN ?_ _) | (with_reducible refine Below.setCell ?_ ?_ _) | (with_reducible refine below_step ?_ (by with_reducible assumption) ?_) | (with_reducible exact Nat.le_refl _) | omega | (simp; omega) | (simp; done)))
                  clear R_f_8 c_f_0_8 c_f_1_8 c_f_2_8 R_e_8 c_e_0_8 c_e_1_8 c_e_2_8 R_o_8 c_o_0_8 c_o_1_8 c_o_2_8 hb8 HB8
                  cases p4 with
                  | false =>
                    go_wp2_with fail
                    go_ret
                    refine ⟨(by first | rfl | exact ret_bool (by first | rfl | (simp; done) | (simp; omega))), ?_⟩
                    (repeat' (first | (with_reducible exact Below.refl _ _) | (with_reducible assumption) | (with_reducible exact Bw.out (by with_reducible assumption)) | (with_reducible refine bw_alloc ?_ _) | (with_reducible refine bw_step ?_ (by with_reducible assumption)) | (with_reducible refine Below.alloc ?_ ?_ _) | (with_reducible refine Below.drew ?_) | (with_reducible refine below_drewN ?_ _) | (with_reducible refine Below.setCell ?_ ?_ _) | (with_reducible refine below_step ?_ (by with_reducible assumption) ?_) | (with_reducible exact Nat.le_refl _) | omega | (simp; omega) | (simp; done)))
                  | true =>
                    obtain ⟨v1, v2⟩ := infer_set P3.out P4.out hc.out HZ6.out HZ1.out HE1.out HE2.out (HV1.out.trans HV2.out.symm)
                    have W1 := Lib.hid v1
                    have W2 := Lib.hid v2
                    clear v1 v2
                    obtain ⟨V, hp⟩ : ∃ p, inferV x = p := ⟨_, rfl⟩
                    obtain ⟨E, hp2⟩ : ∃ p, inferE x = p := ⟨_, rfl⟩
                    rw [hp] at W1
                    rw [hp2] at W2
                    have H7 := fun (w : World) (h : x.In w) => H3.out w h
                    rw [hp, hp2] at H7
                    have H8 := Lib.hid H7
                    clear H7 hp hp2 H3
                    have HB69 : Hid (Below w6.heap.size w6 w9) := HB68h.out.trans (hb9.mono HB68h.out.size)
                    go_wp2_with fail
                    refine (H8.out _ (HX.out.step HB9)).mono ?_
                    rintro e w10 ⟨rfl, hb10⟩
                    have R_f_10 : Row w10 (w.heap.size + 1) [.int .i64 y.op, .int .i64 y.n, .slice y.at' y.ks.length y.cap] := by (repeat' (first | (with_reducible assumption) | (with_reducible refine Row.new' _ _ _ (by first | rfl | (simp; done) | omega)) | (with_reducible refine Row.alloc ?_ _) | (with_reducible refine Row.drew ?_) | (with_reducible refine Row.drewN ?_ _) | (with_reducible refine Row.step ?_ (by with_reducible assumption)) | (with_reducible refine Row.set2' ?_ _ _; first | exact ⟨_, _, by with_reducible assumption⟩ | exact ⟨_, _, Row.alloc (by with_reducible assumption) _⟩ | exact ⟨_, _, Row.alloc (Row.alloc (by with_reducible assumption) _) _⟩) | (with_reducible refine Row.other ?_ (by first | omega | (simp; done) | (simp; omega)) _)))
                    have c_f_0_10 := R_f_10.cell 0 rfl
                    have c_f_1_10 := R_f_10.cell 1 rfl
                    have c_f_2_10 := R_f_10.cell 2 rfl
                    have l_f_10 := R_f_10.lt
                    have R_e_10 : Row w10 (w.heap.size) [.int .i64 x.op, .int .i64 x.n, .slice (some ⟨b, off, none⟩) m x.cap] := by (repeat' (first | (with_reducible assumption) | (with_reducible refine Row.new' _ _ _ (by first | rfl | (simp; done) | omega)) | (with_reducible refine Row.alloc ?_ _) | (with_reducible refine Row.drew ?_) | (with_reducible refine Row.drewN ?_ _) | (with_reducible refine Row.step ?_ (by with_reducible assumption)) | (with_reducible refine Row.set2' ?_ _ _; first | exact ⟨_, _, by with_reducible assumption⟩ | exact ⟨_, _, Row.alloc (by with_reducible assumption) _⟩ | exact ⟨_, _, Row.alloc (Row.alloc (by with_reducible assumption) _) _⟩) | (with_reducible refine Row.other ?_ (by first | omega | (simp; done) | (simp; omega)) _)))
                    have c_e_0_10 := R_e_10.cell 0 rfl
                    have c_e_1_10 := R_e_10.cell 1 rfl
                    have c_e_2_10 := R_e_10.cell 2 rfl
                    have l_e_10 := R_e_10.lt
                    have R_o_10 : Row w10 (O) [.int .i64 x.op, .int .i64 x.n, .slice (some ⟨G, 0, none⟩) m cp] := by (repeat' (first | (with_reducible assumption) | (with_reducible refine Row.new' _ _ _ (by first | rfl | (simp; done) | omega)) | (with_reducible refine Row.alloc ?_ _) | (with_reducible refine Row.drew ?_) | (with_reducible refine Row.drewN ?_ _) | (with_reducible refine Row.step ?_ (by with_reducible assumption)) | (with_reducible refine Row.set2' ?_ _ _; first | exact ⟨_, _, by with_reducible assumption⟩ | exact ⟨_, _, Row.alloc (by with_reducible assumption) _⟩ | exact ⟨_, _, Row.alloc (Row.alloc (by with_reducible assumption) _) _⟩) | (with_reducible refine Row.other ?_ (by first | omega | (simp; done) | (simp; omega)) _)))
                    have c_o_0_10 := R_o_10.cell 0 rfl
                    have c_o_1_10 := R_o_10.cell 1 rfl
                    have c_o_2_10 := R_o_10.cell 2 rfl
                    have l_o_10 := R_o_10.lt
                    have HB10 : Below w.heap.size w w10 := by (repeat' (first | (with_reducible exact Below.refl _ _) | (with_reducible assumption) | (with_reducible exact Bw.out (by with_reducible assumption)) | (with_reducible refine bw_alloc ?_ _) | (with_reducible refine bw_step ?_ (by with_reducible assumption)) | (with_reducible refine Below.alloc ?_ ?_ _) | (with_reducible refine Below.drew ?_) | (with_reducible refine below_drewN ?_ _) | (with_reducible refine Below.setCell ?_ ?_ _) | (with_reducible refine below_step ?_ (by with_reducible assumption) ?_) | (with_reducible exact Nat.le_refl _) | omega | (simp; omega) | (simp; done)))
                    clear R_f_9 c_f_0_9 c_f_1_9 c_f_2_9 R_e_9 c_e_0_9 c_e_1_9 c_e_2_9 R_o_9 c_o_0_9 c_o_1_9 c_o_2_9 hb9 HB9
                    go_wp2_with fail
                    refine (H6.out _ (HZ.out.step (HB69.out.trans (hb10.mono HB69.out.size))) V E W1.out W2.out).mono ?_
                    rintro e w11 ⟨rfl, hb11⟩
                    have R_f_11 : Row w11 (w.heap.size + 1) [.int .i64 y.op, .int .i64 y.n, .slice y.at' y.ks.length y.cap] := by (repeat' (first | (with_reducible assumption) | (with_reducible refine Row.new' _ _ _ (by first | rfl | (simp; done) | omega)) | (with_reducible refine Row.alloc ?_ _) | (with_reducible refine Row.drew ?_) | (with_reducible refine Row.drewN ?_ _) | (with_reducible refine Row.step ?_ (by with_reducible assumption)) | (with_reducible refine Row.set2' ?_ _ _; first | exact ⟨_, _, by with_reducible assumption⟩ | exact ⟨_, _, Row.alloc (by with_reducible assumption) _⟩ | exact ⟨_, _, Row.alloc (Row.alloc (by with_reducible assumption) _) _⟩) | (with_reducible refine Row.other ?_ (by first | omega | (simp; done) | (simp; omega)) _)))
                    have c_f_0_11 := R_f_11.cell 0 rfl
                    have c_f_1_11 := R_f_11.cell 1 rfl
                    have c_f_2_11 := R_f_11.cell 2 rfl
                    have l_f_11 := R_f_11.lt
                    have R_e_11 : Row w11 (w.heap.size) [.int .i64 x.op, .int .i64 x.n, .slice (some ⟨b, off, none⟩) m x.cap] := by (repeat' (first | (with_reducible assumption) | (with_reducible refine Row.new' _ _ _ (by first | rfl | (simp; done) | omega)) | (with_reducible refine Row.alloc ?_ _) | (with_reducible refine Row.drew ?_) | (with_reducible refine Row.drewN ?_ _) | (with_reducible refine Row.step ?_ (by with_reducible assumption)) | (with_reducible refine Row.set2' ?_ _ _; first | exact ⟨_, _, by with_reducible assumption⟩ | exact ⟨_, _, Row.alloc (by with_reducible assumption) _⟩ | exact ⟨_, _, Row.alloc (Row.alloc (by with_reducible assumption) _) _⟩) | (with_reducible refine Row.other ?_ (by first | omega | (simp; done) | (simp; omega)) _)))
                    have c_e_0_11 := R_e_11.cell 0 rfl
                    have c_e_1_11 := R_e_11.cell 1 rfl
                    have c_e_2_11 := R_e_11.cell 2 rfl
                    have l_e_11 := R_e_11.lt
                    have R_o_11 : Row w11 (O) [.int .i64 x.op, .int .i64 x.n, .slice (some ⟨G, 0, none⟩) m cp] := by (repeat' (first | (with_reducible assumption) | (with_reducible refine Row.new' _ _ _ (by first | rfl | (simp; done) | omega)) | (with_reducible refine Row.alloc ?_ _) | (with_reducible refine Row.drew ?_) | (with_reducible refine Row.drewN ?_ _) | (with_reducible refine Row.step ?_ (by with_reducible assumption)) | (with_reducible refine Row.set2' ?_ _ _; first | exact ⟨_, _, by with_reducible assumption⟩ | exact ⟨_, _, Row.alloc (by with_reducible assumption) _⟩ | exact ⟨_, _, Row.alloc (Row.alloc (by with_reducible assumption) _) _⟩) | (with_reducible refine Row.other ?_ (by first | omega | (simp; done) | (simp; omega)) _)))
                    have c_o_0_11 := R_o_11.cell 0 rfl
                    have c_o_1_11 := R_o_11.cell 1 rfl
                    have c_o_2_11 := R_o_11.cell 2 rfl
                    have l_o_11 := R_o_11.lt
                    have HB11 : Below w.heap.size w w11 := by (repeat' (first | (with_reducible exact Below.refl _ _) | (with_reducible assumption) | (with_reducible exact Bw.out (by with_reducible assumption)) | (with_reducible refine bw_alloc ?_ _) | (with_reducible refine bw_step ?_ (by with_reducible assumption)) | (with_reducible refine Below.alloc ?_ ?_ _) | (with_reducible refine Below.drew ?_) | (with_reducible refine below_drewN ?_ _) | (with_reducible refine Below.setCell ?_ ?_ _) | (with_reducible refine below_step ?_ (by with_reducible assumption) ?_) | (with_reducible exact Nat.le_refl _) | omega | (simp; omega) | (simp; done)))
                    clear R_f_10 c_f_0_10 c_f_1_10 c_f_2_10 R_e_10 c_e_0_10 c_e_1_10 c_e_2_10 R_o_10 c_o_0_10 c_o_1_10 c_o_2_10 hb10 HB10
                    go_wp2_with fail
                    go_ret
                    refine ⟨(by first | rfl | exact ret_bool (by first | rfl | (simp; done) | (simp; omega))), ?_⟩
                    (repeat' (first | (with_reducible exact Below.refl _ _) | (with_reducible assumption) | (with_reducible exact Bw.out (by with_reducible assumption)) | (with_reducible refine bw_alloc ?_ _) | (with_reducible refine bw_step ?_ (by with_reducible assumption)) | (with_reducible refine Below.alloc ?_ ?_ _) | (with_reducible refine Below.drew ?_) | (with_reducible refine below_drewN ?_ _) | (with_reducible refine Below.setCell ?_ ?_ _) | (with_reducible refine below_step ?_ (by with_reducible assumption) ?_) | (with_reducible exact Nat.le_refl _) | omega | (simp; omega) | (simp; done)))
                · have hV' : (V1 != V2) = true := by simpa using hV
                  clear hV
                  go_wp2_with fail
                  go_ret
                  refine ⟨(by first | rfl | exact ret_bool (by first | rfl | (simp; done) | (simp; omega))), ?_⟩
                  (repeat' (first | (with_reducible exact Below.refl _ _) | (with_reducible assumption) | (with_reducible exact Bw.out (by with_reducible assumption)) | (with_reducible refine bw_alloc ?_ _) | (with_reducible refine bw_step ?_ (by with_reducible assumption)) | (with_reducible refine Below.alloc ?_ ?_ _) | (with_reducible refine Below.drew ?_) | (with_reducible refine below_drewN ?_ _) | (with_reducible refine Below.setCell ?_ ?_ _) | (with_reducible refine below_step ?_ (by with_reducible assumption) ?_) | (with_reducible exact Nat.le_refl _) | omega | (simp; omega) | (simp; done)))
              · have hE2' : (E2 != 0) = true := by simpa using hE2
                clear hE2
                go_wp2_with fail
                go_ret
                refine ⟨(by first | rfl | exact ret_bool (by first | rfl | (simp; done) | (simp; omega))), ?_⟩
                (repeat' (first | (with_reducible exact Below.refl _ _) | (with_reducible assumption) | (with_reducible exact Bw.out (by with_reducible assumption)) | (with_reducible refine bw_alloc ?_ _) | (with_reducible refine bw_step ?_ (by with_reducible assumption)) | (with_reducible refine Below.alloc ?_ ?_ _) | (with_reducible refine Below.drew ?_) | (with_reducible refine below_drewN ?_ _) | (with_reducible refine Below.setCell ?_ ?_ _) | (with_reducible refine below_step ?_ (by with_reducible assumption) ?_) | (with_reducible exact Nat.le_refl _) | omega | (simp; omega) | (simp; done)))
            · have hE1' : (E1 != 0) = true := by simpa using hE1
              clear hE1
              go_wp2_with fail
              go_ret
              refine ⟨(by first | rfl | exact ret_bool (by first | rfl | (simp; done) | (simp; omega))), ?_⟩
              (repeat' (first | (with_reducible exact Below.refl _ _) | (with_reducible assumption) | (with_reducible exact Bw.out (by with_reducible assumption)) | (with_reducible refine bw_alloc ?_ _) | (with_reducible refine bw_step ?_ (by with_reducible assumption)) | (with_reducible refine Below.alloc ?_ ?_ _) | (with_reducible refine Below.drew ?_) | (with_reducible refine below_drewN ?_ _) | (with_reducible refine Below.setCell ?_ ?_ _) | (with_reducible refine below_step ?_ (by with_reducible assumption) ?_) | (with_reducible exact Nat.le_refl _) | omega | (simp; omega) | (simp; done)))


set_option maxRecDepth 100000 in
theorem typesReplaced_lifted (os : Os) (started : os.Started) (H : Type) (enc : TypeId × Value → H) :
    ReturnsInHanded {} Try.checked os 5 .any (Rows.typesReplacedSpec.pre6 enc Try.prog Try.f5 Rows.typesReplacedRow.domain false) (Rows.typesReplacedSpec.post enc Try.prog Try.f5 false true false false) := by
  refine returnsInHanded_of_change (C := Try.checked) own started (by kernel_rfl) Try.func5
    (ChangeSpec.witness6 (enc := enc) (C := Try.checked) false ⟨#[], #[.agg #[.int .i64 0, .int .i64 0, .slice none 0 0], .agg #[.int .i64 0, .int .i64 0, .slice none 0 0], .int .u8 0], []⟩ 8 (by kernel_rfl) (by kernel_rfl) (by kernel_rfl) (by kernel_rfl)) ?_
  intro W base args ds gs before hval0 hW _ _
  have hval : ∀ (j : Nat) t v, Try.f5.params[j]? = some t → args[j]? = some v → Value.okWide Try.prog W .any base t v := hval0
  have hW' := hW
  obtain ⟨p, q, hA0, hV, rfl, hfz, hnd⟩ := hW
  obtain ⟨rfl, rfl⟩ := trodVars_none hV
  have hA : DataW.TrodAll enc Try.prog W 0 (fun _ => true) true Try.f5.params.toList args.toList ds p := hA0
  rw [Try.params5] at hA hval
  obtain ⟨v0, vs0, d0, ds0, p0, q0, hargs, rfl, rfl, h0, r0⟩ := trodAll_cons hA
  obtain ⟨v1, vs1, d1, ds1, p1, q1, rfl, rfl, rfl, h1, r1⟩ := trodAll_cons r0
  obtain ⟨v2, vs2, d2, ds2, p2, q2, rfl, rfl, rfl, h2, r2⟩ := trodAll_cons r1
  obtain ⟨rfl, rfl, rfl⟩ := trodAll_nil r2
  obtain rfl : args = #[v0, v1, v2] := by cases args; simp_all
  obtain ⟨x, rfl, hs_x, wf_x⟩ := expr_arg (hval 0 24 v0 rfl rfl) h0
  obtain ⟨y, rfl, hs_y, wf_y⟩ := expr_arg (hval 1 24 v1 rfl rfl) h1
  obtain ⟨q, rfl, rfl, rfl, wq⟩ := open_int Try.underlying5 (hval 2 5 v2 rfl rfl) h2
  clear hA0 hval0
  refine (replaced_walk x y q wf_x wf_y wq W hs_x hs_y).mono fun e W' ⟨he, hb⟩ => ?_
  subst he
  exact ⟨_, rfl, law_post (B := 4) laidOut (by rw [Try.params5]; simp only [List.mem_cons, List.not_mem_nil, or_false, forall_eq_or_imp, forall_eq]; first | exact readable_typesReplaced | (repeat' apply And.intro) <;> first | exact of_decide_eq_true (by kernel_rfl) | kernel_rfl) rfl Try.underlying4 rfl rfl hW' hb⟩

theorem typesReplaced_over : Rows.typesReplacedRow.holds Try.pinned (OpenSpec.ofChange Rows.typesReplacedSpec) :=
  OpenClaim.holds_of_wide 5 Try.f5 rfl rfl rfl rfl rfl rfl rfl ⟨rfl, rfl, rfl, rfl, rfl⟩ rfl rfl rfl rfl rfl (by kernel_rfl) Try.func5 (by kernel_rfl)
    (of_decide_eq_true (by kernel_rfl)) (by unfold Func.isWrapper; first | (rw [if_pos (by decide +kernel)]; kernel_rfl) | (rw [if_neg (by decide +kernel)]; exact ⟨rfl, rfl⟩))
    (fun os started H enc _ => typesReplaced_lifted os started H enc)

theorem typesReplaced_holds : Rows.TypesReplacedSaid := typesReplaced_over
#print axioms typesReplaced_holds

end Go.Proofs.Ytcmodmchnokmgaa
