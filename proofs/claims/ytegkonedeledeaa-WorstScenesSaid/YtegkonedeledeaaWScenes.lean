/-
  WorstScenes: a scene that Promise returns can happen: at most as many different channels as may be cut off sell at least one room, and no more than their shares, and all sales less the rooms are the walked guests, more than promised; if there is none, no more than promised are walked on any night at most.
  No condition: for every input.
-/
import Derived.Test.YtegkonedeledeaaWPlain
namespace Go.Proofs.Ytegkonedeledeaa
set_option linter.unusedSimpArgs false
set_option linter.unusedVariables false
open Go.ChangeShapes Go.WideShapes Go.ChangeAt Go.RowKit

theorem Nights_c (a : Option Addr) (n cap : Nat) (l : List NightV) (c : Nat) (w : World) (hs : SlN w a n l) (hcaps : ∀ x ∈ l, x.n ≤ x.cap ∧ x.cap ≤ maxLen) (h : nightsB l = true) (hc : c ≤ 30) :
    Calls Try.prog 36 #[.slice a n cap, .int .i64 c] w fun e w' => ∃ b d, e = .returned (.tuple #[.slice b n d, .int .i64 0]) ∧ SlC w' b n d (l.map (wkN c)) ∧ Below w.heap.size w w' := by
  refine (Nights_any a n cap l c w hs hcaps h hc).mono ?_
  rintro e w' ⟨v, rfl, hv, hb⟩
  obtain ⟨b, d, rfl, k⟩ := hv.sized n (by rw [List.length_map]; exact hs.1)
  exact ⟨b, d, rfl, k, hb⟩
theorem nights_le {l : List NightV} {k : Nat} {most : Int} (h : l.any (brk k most) = false) {j : Nat} {z : Int} (hz : (l.map (wkN k)).getD j 0 = z) (hj : j < l.length) : z ≤ most := by
  have e := any_brk h (List.getElem?_eq_getElem hj)
  have h2 := brk_wkf.1 e
  have : wkN k l[j] = z := by rw [← hz]; simp [List.getD_eq_getElem?_getD, hj]
  unfold wkN at this
  omega

theorem getD_ne {l : List Int} (h : l.Nodup) {d t : Nat} (h1 : d < t) (h2 : t < l.length) : l.getD d 0 ≠ l.getD t 0 := by
  intro e
  have n := not_in_take h h2
  rw [← e] at n
  apply n
  rw [List.getD_eq_getElem?_getD, List.getElem?_eq_getElem (by omega : d < l.length), Option.getD_some]
  exact List.mem_take_iff_getElem.2 ⟨d, by omega, rfl⟩


set_option maxRecDepth 100000 in
set_option maxHeartbeats 12800000 in
theorem wscenes_walk (a : Option Addr) (n cap : Nat) (l : List NightV) (c most : Int) (hwf : ∀ x ∈ l, NightWf x) (_ : (Lit.int .i64 c).wf = true) (_ : (Lit.int .i64 most).wf = true) (w : World) (hv : SlN w a n l ∧ n ≤ cap ∧ cap ≤ maxLen) :
    Calls Try.prog 11 #[.slice a n cap, .int .i64 c, .int .i64 most] w fun e w' => e = .returned (.bool true) ∧ Below w.heap.size w w' := by
  obtain ⟨hs, hcap1, hcap2⟩ := hv
  unfold maxLen at hcap2
  have hcaps := wf_caps hwf
  have HS := Lib.hid hs
  have HC := Lib.hid hcaps
  have HLen := Lib.hid hs.1
  clear hs hcaps hwf
  cases hf : fewN l with
  | false =>
    have HF := Lib.hid hf
    clear hf
    go_enter Try.func11, Try.ntmps11
    go_wp2_with fail
    refine (w_head_any _).mono ?_
    rintro e w1 ⟨rfl, hb1⟩
    have HB1 : Below w.heap.size w w1 := by (repeat' (first | (with_reducible exact Below.refl _ _) | (with_reducible assumption) | (with_reducible exact Bw.out (by with_reducible assumption)) | (with_reducible refine bw_alloc ?_ _) | (with_reducible refine bw_step ?_ (by with_reducible assumption)) | (with_reducible refine Below.alloc ?_ ?_ _) | (with_reducible refine Below.drew ?_) | (with_reducible refine below_drewN ?_ _) | (with_reducible refine Below.setCell ?_ ?_ _) | (with_reducible refine below_step ?_ (by with_reducible assumption) ?_) | (with_reducible exact Nat.le_refl _) | omega | (simp; omega) | (simp; done)))
    go_wp2_with fail
    refine (R_few_any _ _ _ l _ (by omega) (HS.out.below (by (repeat' (first | (with_reducible exact Below.refl _ _) | (with_reducible assumption) | (with_reducible exact Bw.out (by with_reducible assumption)) | (with_reducible refine bw_alloc ?_ _) | (with_reducible refine bw_step ?_ (by with_reducible assumption)) | (with_reducible refine Below.alloc ?_ ?_ _) | (with_reducible refine Below.drew ?_) | (with_reducible refine below_drewN ?_ _) | (with_reducible refine Below.setCell ?_ ?_ _) | (with_reducible refine below_step ?_ (by with_reducible assumption) ?_) | (with_reducible exact Nat.le_refl _) | omega | (simp; omega) | (simp; done))))) false HF.out).mono ?_
    rintro e w' ⟨rfl, rfl⟩
    go_wp2_with fail
    go_ret
    refine ⟨(by first | rfl | exact ret_bool (by first | rfl | (simp; done) | (simp; omega))), ?_⟩
    (repeat' (first | (with_reducible exact Below.refl _ _) | (with_reducible assumption) | (with_reducible exact Bw.out (by with_reducible assumption)) | (with_reducible refine bw_alloc ?_ _) | (with_reducible refine bw_step ?_ (by with_reducible assumption)) | (with_reducible refine Below.alloc ?_ ?_ _) | (with_reducible refine Below.drew ?_) | (with_reducible refine below_drewN ?_ _) | (with_reducible refine Below.setCell ?_ ?_ _) | (with_reducible refine below_step ?_ (by with_reducible assumption) ?_) | (with_reducible exact Nat.le_refl _) | omega | (simp; omega) | (simp; done)))
  | true =>
    have hn40 : n ≤ 40 := by have := fewN_len hf; rw [HLen.out] at this; exact this
    have HF := Lib.hid hf
    clear hf
    cases hB : (nightsB l && inB c 30 && inB most 1000) with
    | false =>
      have HB := Lib.hid hB
      clear hB
      cases hB2 : (nightsB l && inB c 30) with
      | false =>
        have HB2X := Lib.hid hB2
        clear hB2
        go_enter Try.func11, Try.ntmps11
        go_wp2_with fail
        refine (w_head_any _).mono ?_
        rintro e w1 ⟨rfl, hb1⟩
        have HB1 : Below w.heap.size w w1 := by (repeat' (first | (with_reducible exact Below.refl _ _) | (with_reducible assumption) | (with_reducible exact Bw.out (by with_reducible assumption)) | (with_reducible refine bw_alloc ?_ _) | (with_reducible refine bw_step ?_ (by with_reducible assumption)) | (with_reducible refine Below.alloc ?_ ?_ _) | (with_reducible refine Below.drew ?_) | (with_reducible refine below_drewN ?_ _) | (with_reducible refine Below.setCell ?_ ?_ _) | (with_reducible refine below_step ?_ (by with_reducible assumption) ?_) | (with_reducible exact Nat.le_refl _) | omega | (simp; omega) | (simp; done)))
        go_wp2_with fail
        refine (R_few_any _ _ _ l _ (by omega) (HS.out.below (by (repeat' (first | (with_reducible exact Below.refl _ _) | (with_reducible assumption) | (with_reducible exact Bw.out (by with_reducible assumption)) | (with_reducible refine bw_alloc ?_ _) | (with_reducible refine bw_step ?_ (by with_reducible assumption)) | (with_reducible refine Below.alloc ?_ ?_ _) | (with_reducible refine Below.drew ?_) | (with_reducible refine below_drewN ?_ _) | (with_reducible refine Below.setCell ?_ ?_ _) | (with_reducible refine below_step ?_ (by with_reducible assumption) ?_) | (with_reducible exact Nat.le_refl _) | omega | (simp; omega) | (simp; done))))) true HF.out).mono ?_
        rintro e w' ⟨rfl, rfl⟩
        go_wp2_with fail
        refine (Promise_arg _ _ _ l c most _ (by omega) (HS.out.below (by (repeat' (first | (with_reducible exact Below.refl _ _) | (with_reducible assumption) | (with_reducible exact Bw.out (by with_reducible assumption)) | (with_reducible refine bw_alloc ?_ _) | (with_reducible refine bw_step ?_ (by with_reducible assumption)) | (with_reducible refine Below.alloc ?_ ?_ _) | (with_reducible refine Below.drew ?_) | (with_reducible refine below_drewN ?_ _) | (with_reducible refine Below.setCell ?_ ?_ _) | (with_reducible refine below_step ?_ (by with_reducible assumption) ?_) | (with_reducible exact Nat.le_refl _) | omega | (simp; omega) | (simp; done))))) HB.out).mono ?_
        rintro e w2 ⟨rfl, hb2⟩
        have HB2 : Below w.heap.size w w2 := by (repeat' (first | (with_reducible exact Below.refl _ _) | (with_reducible assumption) | (with_reducible exact Bw.out (by with_reducible assumption)) | (with_reducible refine bw_alloc ?_ _) | (with_reducible refine bw_step ?_ (by with_reducible assumption)) | (with_reducible refine Below.alloc ?_ ?_ _) | (with_reducible refine Below.drew ?_) | (with_reducible refine below_drewN ?_ _) | (with_reducible refine Below.setCell ?_ ?_ _) | (with_reducible refine below_step ?_ (by with_reducible assumption) ?_) | (with_reducible exact Nat.le_refl _) | omega | (simp; omega) | (simp; done)))
        clear hb1 HB1
        go_wp2_with fail
        refine (Nights_not _ _ _ l c _ (by omega) (HS.out.below (by (repeat' (first | (with_reducible exact Below.refl _ _) | (with_reducible assumption) | (with_reducible exact Bw.out (by with_reducible assumption)) | (with_reducible refine bw_alloc ?_ _) | (with_reducible refine bw_step ?_ (by with_reducible assumption)) | (with_reducible refine Below.alloc ?_ ?_ _) | (with_reducible refine Below.drew ?_) | (with_reducible refine below_drewN ?_ _) | (with_reducible refine Below.setCell ?_ ?_ _) | (with_reducible refine below_step ?_ (by with_reducible assumption) ?_) | (with_reducible exact Nat.le_refl _) | omega | (simp; omega) | (simp; done))))) HB2X.out).mono ?_
        rintro e w3 ⟨rfl, hb3⟩
        have R_s_3 : Row w3 (w2.heap.size) [.int .i64 (0), .int .i64 (0), .slice none 0 0, .slice none 0 0] := by (repeat' (first | (with_reducible assumption) | (with_reducible refine Row.new' _ _ _ (by first | rfl | (simp; done) | omega)) | (with_reducible refine Row.alloc ?_ _) | (with_reducible refine Row.drew ?_) | (with_reducible refine Row.drewN ?_ _) | (with_reducible refine Row.step ?_ (by with_reducible assumption)) | (with_reducible refine Row.set2' ?_ _ _; first | exact ⟨_, _, by with_reducible assumption⟩ | exact ⟨_, _, Row.alloc (by with_reducible assumption) _⟩ | exact ⟨_, _, Row.alloc (Row.alloc (by with_reducible assumption) _) _⟩) | (with_reducible refine Row.other ?_ (by first | omega | (simp; done) | (simp; omega)) _)))
        have c_s_0_3 := R_s_3.cell 0 rfl
        have c_s_1_3 := R_s_3.cell 1 rfl
        have c_s_2_3 := R_s_3.cell 2 rfl
        have c_s_3_3 := R_s_3.cell 3 rfl
        have l_s_3 := R_s_3.lt
        have HB3 : Below w.heap.size w w3 := by (repeat' (first | (with_reducible exact Below.refl _ _) | (with_reducible assumption) | (with_reducible exact Bw.out (by with_reducible assumption)) | (with_reducible refine bw_alloc ?_ _) | (with_reducible refine bw_step ?_ (by with_reducible assumption)) | (with_reducible refine Below.alloc ?_ ?_ _) | (with_reducible refine Below.drew ?_) | (with_reducible refine below_drewN ?_ _) | (with_reducible refine Below.setCell ?_ ?_ _) | (with_reducible refine below_step ?_ (by with_reducible assumption) ?_) | (with_reducible exact Nat.le_refl _) | omega | (simp; omega) | (simp; done)))
        clear hb2 HB2
        go_wp2_with fail
        refine (R_sameScene 0 0 0 0 none none none none 0 0 0 0 0 0 0 0 [] [] [] [] _ (SlC.nil _) (SlC.nil _) (SlC.nil _) (SlC.nil _) (by omega) (by omega) (by omega) (by omega) true (by decide +kernel)).mono ?_
        rintro e w4 ⟨rfl, hb4⟩
        have R_s_4 : Row w4 (w2.heap.size) [.int .i64 (0), .int .i64 (0), .slice none 0 0, .slice none 0 0] := by (repeat' (first | (with_reducible assumption) | (with_reducible refine Row.new' _ _ _ (by first | rfl | (simp; done) | omega)) | (with_reducible refine Row.alloc ?_ _) | (with_reducible refine Row.drew ?_) | (with_reducible refine Row.drewN ?_ _) | (with_reducible refine Row.step ?_ (by with_reducible assumption)) | (with_reducible refine Row.set2' ?_ _ _; first | exact ⟨_, _, by with_reducible assumption⟩ | exact ⟨_, _, Row.alloc (by with_reducible assumption) _⟩ | exact ⟨_, _, Row.alloc (Row.alloc (by with_reducible assumption) _) _⟩) | (with_reducible refine Row.other ?_ (by first | omega | (simp; done) | (simp; omega)) _)))
        have c_s_0_4 := R_s_4.cell 0 rfl
        have c_s_1_4 := R_s_4.cell 1 rfl
        have c_s_2_4 := R_s_4.cell 2 rfl
        have c_s_3_4 := R_s_4.cell 3 rfl
        have l_s_4 := R_s_4.lt
        have HB4 : Below w.heap.size w w4 := by (repeat' (first | (with_reducible exact Below.refl _ _) | (with_reducible assumption) | (with_reducible exact Bw.out (by with_reducible assumption)) | (with_reducible refine bw_alloc ?_ _) | (with_reducible refine bw_step ?_ (by with_reducible assumption)) | (with_reducible refine Below.alloc ?_ ?_ _) | (with_reducible refine Below.drew ?_) | (with_reducible refine below_drewN ?_ _) | (with_reducible refine Below.setCell ?_ ?_ _) | (with_reducible refine below_step ?_ (by with_reducible assumption) ?_) | (with_reducible exact Nat.le_refl _) | omega | (simp; omega) | (simp; done)))
        clear R_s_3 c_s_0_3 c_s_1_3 c_s_2_3 c_s_3_3 hb3 HB3
        go_wp2_with fail
        go_ret
        refine ⟨(by first | rfl | exact ret_bool (by first | rfl | (simp; done) | (simp; omega))), ?_⟩
        (repeat' (first | (with_reducible exact Below.refl _ _) | (with_reducible assumption) | (with_reducible exact Bw.out (by with_reducible assumption)) | (with_reducible refine bw_alloc ?_ _) | (with_reducible refine bw_step ?_ (by with_reducible assumption)) | (with_reducible refine Below.alloc ?_ ?_ _) | (with_reducible refine Below.drew ?_) | (with_reducible refine below_drewN ?_ _) | (with_reducible refine Below.setCell ?_ ?_ _) | (with_reducible refine below_step ?_ (by with_reducible assumption) ?_) | (with_reducible exact Nat.le_refl _) | omega | (simp; omega) | (simp; done)))
      | true =>
        simp only [Bool.and_eq_true] at hB2
        obtain ⟨b1, b2⟩ := hB2
        obtain ⟨c1, c2⟩ := inB_iff.1 b2
        obtain ⟨k, rfl⟩ := Int.eq_ofNat_of_zero_le c1
        have hk30 : k ≤ 30 := by omega
        have HN := Lib.hid b1
        clear b1 b2
        go_enter Try.func11, Try.ntmps11
        go_wp2_with fail
        refine (w_head_any _).mono ?_
        rintro e w1 ⟨rfl, hb1⟩
        have HB1 : Below w.heap.size w w1 := by (repeat' (first | (with_reducible exact Below.refl _ _) | (with_reducible assumption) | (with_reducible exact Bw.out (by with_reducible assumption)) | (with_reducible refine bw_alloc ?_ _) | (with_reducible refine bw_step ?_ (by with_reducible assumption)) | (with_reducible refine Below.alloc ?_ ?_ _) | (with_reducible refine Below.drew ?_) | (with_reducible refine below_drewN ?_ _) | (with_reducible refine Below.setCell ?_ ?_ _) | (with_reducible refine below_step ?_ (by with_reducible assumption) ?_) | (with_reducible exact Nat.le_refl _) | omega | (simp; omega) | (simp; done)))
        go_wp2_with fail
        refine (R_few_any _ _ _ l _ (by omega) (HS.out.below (by (repeat' (first | (with_reducible exact Below.refl _ _) | (with_reducible assumption) | (with_reducible exact Bw.out (by with_reducible assumption)) | (with_reducible refine bw_alloc ?_ _) | (with_reducible refine bw_step ?_ (by with_reducible assumption)) | (with_reducible refine Below.alloc ?_ ?_ _) | (with_reducible refine Below.drew ?_) | (with_reducible refine below_drewN ?_ _) | (with_reducible refine Below.setCell ?_ ?_ _) | (with_reducible refine below_step ?_ (by with_reducible assumption) ?_) | (with_reducible exact Nat.le_refl _) | omega | (simp; omega) | (simp; done))))) true HF.out).mono ?_
        rintro e w' ⟨rfl, rfl⟩
        go_wp2_with fail
        refine (Promise_arg _ _ _ l k most _ (by omega) (HS.out.below (by (repeat' (first | (with_reducible exact Below.refl _ _) | (with_reducible assumption) | (with_reducible exact Bw.out (by with_reducible assumption)) | (with_reducible refine bw_alloc ?_ _) | (with_reducible refine bw_step ?_ (by with_reducible assumption)) | (with_reducible refine Below.alloc ?_ ?_ _) | (with_reducible refine Below.drew ?_) | (with_reducible refine below_drewN ?_ _) | (with_reducible refine Below.setCell ?_ ?_ _) | (with_reducible refine below_step ?_ (by with_reducible assumption) ?_) | (with_reducible exact Nat.le_refl _) | omega | (simp; omega) | (simp; done))))) HB.out).mono ?_
        rintro e w2 ⟨rfl, hb2⟩
        have HB2 : Below w.heap.size w w2 := by (repeat' (first | (with_reducible exact Below.refl _ _) | (with_reducible assumption) | (with_reducible exact Bw.out (by with_reducible assumption)) | (with_reducible refine bw_alloc ?_ _) | (with_reducible refine bw_step ?_ (by with_reducible assumption)) | (with_reducible refine Below.alloc ?_ ?_ _) | (with_reducible refine Below.drew ?_) | (with_reducible refine below_drewN ?_ _) | (with_reducible refine Below.setCell ?_ ?_ _) | (with_reducible refine below_step ?_ (by with_reducible assumption) ?_) | (with_reducible exact Nat.le_refl _) | omega | (simp; omega) | (simp; done)))
        clear hb1 HB1
        go_wp2_with fail
        refine (Nights_any _ _ _ l k _ (HS.out.below (by (repeat' (first | (with_reducible exact Below.refl _ _) | (with_reducible assumption) | (with_reducible exact Bw.out (by with_reducible assumption)) | (with_reducible refine bw_alloc ?_ _) | (with_reducible refine bw_step ?_ (by with_reducible assumption)) | (with_reducible refine Below.alloc ?_ ?_ _) | (with_reducible refine Below.drew ?_) | (with_reducible refine below_drewN ?_ _) | (with_reducible refine Below.setCell ?_ ?_ _) | (with_reducible refine below_step ?_ (by with_reducible assumption) ?_) | (with_reducible exact Nat.le_refl _) | omega | (simp; omega) | (simp; done))))) HC.out HN.out hk30).mono ?_
        rintro e w3 ⟨vN, rfl, hvN, hb3⟩
        have R_s_3 : Row w3 (w2.heap.size) [.int .i64 (0), .int .i64 (0), .slice none 0 0, .slice none 0 0] := by (repeat' (first | (with_reducible assumption) | (with_reducible refine Row.new' _ _ _ (by first | rfl | (simp; done) | omega)) | (with_reducible refine Row.alloc ?_ _) | (with_reducible refine Row.drew ?_) | (with_reducible refine Row.drewN ?_ _) | (with_reducible refine Row.step ?_ (by with_reducible assumption)) | (with_reducible refine Row.set2' ?_ _ _; first | exact ⟨_, _, by with_reducible assumption⟩ | exact ⟨_, _, Row.alloc (by with_reducible assumption) _⟩ | exact ⟨_, _, Row.alloc (Row.alloc (by with_reducible assumption) _) _⟩) | (with_reducible refine Row.other ?_ (by first | omega | (simp; done) | (simp; omega)) _)))
        have c_s_0_3 := R_s_3.cell 0 rfl
        have c_s_1_3 := R_s_3.cell 1 rfl
        have c_s_2_3 := R_s_3.cell 2 rfl
        have c_s_3_3 := R_s_3.cell 3 rfl
        have l_s_3 := R_s_3.lt
        have HB3 : Below w.heap.size w w3 := by (repeat' (first | (with_reducible exact Below.refl _ _) | (with_reducible assumption) | (with_reducible exact Bw.out (by with_reducible assumption)) | (with_reducible refine bw_alloc ?_ _) | (with_reducible refine bw_step ?_ (by with_reducible assumption)) | (with_reducible refine Below.alloc ?_ ?_ _) | (with_reducible refine Below.drew ?_) | (with_reducible refine below_drewN ?_ _) | (with_reducible refine Below.setCell ?_ ?_ _) | (with_reducible refine below_step ?_ (by with_reducible assumption) ?_) | (with_reducible exact Nat.le_refl _) | omega | (simp; omega) | (simp; done)))
        clear hb2 HB2
        clear hvN
        go_wp2_with fail
        refine (R_sameScene 0 0 0 0 none none none none 0 0 0 0 0 0 0 0 [] [] [] [] _ (SlC.nil _) (SlC.nil _) (SlC.nil _) (SlC.nil _) (by omega) (by omega) (by omega) (by omega) true (by decide +kernel)).mono ?_
        rintro e w4 ⟨rfl, hb4⟩
        have R_s_4 : Row w4 (w2.heap.size) [.int .i64 (0), .int .i64 (0), .slice none 0 0, .slice none 0 0] := by (repeat' (first | (with_reducible assumption) | (with_reducible refine Row.new' _ _ _ (by first | rfl | (simp; done) | omega)) | (with_reducible refine Row.alloc ?_ _) | (with_reducible refine Row.drew ?_) | (with_reducible refine Row.drewN ?_ _) | (with_reducible refine Row.step ?_ (by with_reducible assumption)) | (with_reducible refine Row.set2' ?_ _ _; first | exact ⟨_, _, by with_reducible assumption⟩ | exact ⟨_, _, Row.alloc (by with_reducible assumption) _⟩ | exact ⟨_, _, Row.alloc (Row.alloc (by with_reducible assumption) _) _⟩) | (with_reducible refine Row.other ?_ (by first | omega | (simp; done) | (simp; omega)) _)))
        have c_s_0_4 := R_s_4.cell 0 rfl
        have c_s_1_4 := R_s_4.cell 1 rfl
        have c_s_2_4 := R_s_4.cell 2 rfl
        have c_s_3_4 := R_s_4.cell 3 rfl
        have l_s_4 := R_s_4.lt
        have HB4 : Below w.heap.size w w4 := by (repeat' (first | (with_reducible exact Below.refl _ _) | (with_reducible assumption) | (with_reducible exact Bw.out (by with_reducible assumption)) | (with_reducible refine bw_alloc ?_ _) | (with_reducible refine bw_step ?_ (by with_reducible assumption)) | (with_reducible refine Below.alloc ?_ ?_ _) | (with_reducible refine Below.drew ?_) | (with_reducible refine below_drewN ?_ _) | (with_reducible refine Below.setCell ?_ ?_ _) | (with_reducible refine below_step ?_ (by with_reducible assumption) ?_) | (with_reducible exact Nat.le_refl _) | omega | (simp; omega) | (simp; done)))
        clear R_s_3 c_s_0_3 c_s_1_3 c_s_2_3 c_s_3_3 hb3 HB3
        go_wp2_with fail
        go_ret
        refine ⟨(by first | rfl | exact ret_bool (by first | rfl | (simp; done) | (simp; omega))), ?_⟩
        (repeat' (first | (with_reducible exact Below.refl _ _) | (with_reducible assumption) | (with_reducible exact Bw.out (by with_reducible assumption)) | (with_reducible refine bw_alloc ?_ _) | (with_reducible refine bw_step ?_ (by with_reducible assumption)) | (with_reducible refine Below.alloc ?_ ?_ _) | (with_reducible refine Below.drew ?_) | (with_reducible refine below_drewN ?_ _) | (with_reducible refine Below.setCell ?_ ?_ _) | (with_reducible refine below_step ?_ (by with_reducible assumption) ?_) | (with_reducible exact Nat.le_refl _) | omega | (simp; omega) | (simp; done)))
    | true =>
      have hB0 := hB
      simp only [Bool.and_eq_true] at hB0
      obtain ⟨⟨b1, b2⟩, b3⟩ := hB0
      obtain ⟨c1, c2⟩ := inB_iff.1 b2
      obtain ⟨m1, m2⟩ := inB_iff.1 b3
      obtain ⟨k, rfl⟩ := Int.eq_ofNat_of_zero_le c1
      have hk30 : k ≤ 30 := by omega
      have HN := Lib.hid b1
      have HB := Lib.hid hB
      clear hB b1 b2 b3
      rcases first_brk (brk k most) l with hno | ⟨i, x, hi, hx, hbx, hbefore⟩
      · have HNO := Lib.hid hno
        clear hno
        go_enter Try.func11, Try.ntmps11
        go_wp2_with fail
        refine (w_head_any _).mono ?_
        rintro e w1 ⟨rfl, hb1⟩
        have HB1 : Below w.heap.size w w1 := by (repeat' (first | (with_reducible exact Below.refl _ _) | (with_reducible assumption) | (with_reducible exact Bw.out (by with_reducible assumption)) | (with_reducible refine bw_alloc ?_ _) | (with_reducible refine bw_step ?_ (by with_reducible assumption)) | (with_reducible refine Below.alloc ?_ ?_ _) | (with_reducible refine Below.drew ?_) | (with_reducible refine below_drewN ?_ _) | (with_reducible refine Below.setCell ?_ ?_ _) | (with_reducible refine below_step ?_ (by with_reducible assumption) ?_) | (with_reducible exact Nat.le_refl _) | omega | (simp; omega) | (simp; done)))
        go_wp2_with fail
        refine (R_few_any _ _ _ l _ (by omega) (HS.out.below (by (repeat' (first | (with_reducible exact Below.refl _ _) | (with_reducible assumption) | (with_reducible exact Bw.out (by with_reducible assumption)) | (with_reducible refine bw_alloc ?_ _) | (with_reducible refine bw_step ?_ (by with_reducible assumption)) | (with_reducible refine Below.alloc ?_ ?_ _) | (with_reducible refine Below.drew ?_) | (with_reducible refine below_drewN ?_ _) | (with_reducible refine Below.setCell ?_ ?_ _) | (with_reducible refine below_step ?_ (by with_reducible assumption) ?_) | (with_reducible exact Nat.le_refl _) | omega | (simp; omega) | (simp; done))))) true HF.out).mono ?_
        rintro e w' ⟨rfl, rfl⟩
        go_wp2_with fail
        refine (Promise_none _ _ _ l k most _ (HS.out.below (by (repeat' (first | (with_reducible exact Below.refl _ _) | (with_reducible assumption) | (with_reducible exact Bw.out (by with_reducible assumption)) | (with_reducible refine bw_alloc ?_ _) | (with_reducible refine bw_step ?_ (by with_reducible assumption)) | (with_reducible refine Below.alloc ?_ ?_ _) | (with_reducible refine Below.drew ?_) | (with_reducible refine below_drewN ?_ _) | (with_reducible refine Below.setCell ?_ ?_ _) | (with_reducible refine below_step ?_ (by with_reducible assumption) ?_) | (with_reducible exact Nat.le_refl _) | omega | (simp; omega) | (simp; done))))) HC.out HB.out HNO.out).mono ?_
        rintro e w2 ⟨rfl, hb2⟩
        have HB2 : Below w.heap.size w w2 := by (repeat' (first | (with_reducible exact Below.refl _ _) | (with_reducible assumption) | (with_reducible exact Bw.out (by with_reducible assumption)) | (with_reducible refine bw_alloc ?_ _) | (with_reducible refine bw_step ?_ (by with_reducible assumption)) | (with_reducible refine Below.alloc ?_ ?_ _) | (with_reducible refine Below.drew ?_) | (with_reducible refine below_drewN ?_ _) | (with_reducible refine Below.setCell ?_ ?_ _) | (with_reducible refine below_step ?_ (by with_reducible assumption) ?_) | (with_reducible exact Nat.le_refl _) | omega | (simp; omega) | (simp; done)))
        clear hb1 HB1
        go_wp2_with fail
        refine (Nights_c _ n _ l k _ (HS.out.below (by (repeat' (first | (with_reducible exact Below.refl _ _) | (with_reducible assumption) | (with_reducible exact Bw.out (by with_reducible assumption)) | (with_reducible refine bw_alloc ?_ _) | (with_reducible refine bw_step ?_ (by with_reducible assumption)) | (with_reducible refine Below.alloc ?_ ?_ _) | (with_reducible refine Below.drew ?_) | (with_reducible refine below_drewN ?_ _) | (with_reducible refine Below.setCell ?_ ?_ _) | (with_reducible refine below_step ?_ (by with_reducible assumption) ?_) | (with_reducible exact Nat.le_refl _) | omega | (simp; omega) | (simp; done))))) HC.out HN.out hk30).mono ?_
        rintro e w3 ⟨aN, dN, rfl, KN, hb3⟩
        have R_s_3 : Row w3 (w2.heap.size) [.int .i64 (0), .int .i64 (0), .slice none 0 0, .slice none 0 0] := by (repeat' (first | (with_reducible assumption) | (with_reducible refine Row.new' _ _ _ (by first | rfl | (simp; done) | omega)) | (with_reducible refine Row.alloc ?_ _) | (with_reducible refine Row.drew ?_) | (with_reducible refine Row.drewN ?_ _) | (with_reducible refine Row.step ?_ (by with_reducible assumption)) | (with_reducible refine Row.set2' ?_ _ _; first | exact ⟨_, _, by with_reducible assumption⟩ | exact ⟨_, _, Row.alloc (by with_reducible assumption) _⟩ | exact ⟨_, _, Row.alloc (Row.alloc (by with_reducible assumption) _) _⟩) | (with_reducible refine Row.other ?_ (by first | omega | (simp; done) | (simp; omega)) _)))
        have c_s_0_3 := R_s_3.cell 0 rfl
        have c_s_1_3 := R_s_3.cell 1 rfl
        have c_s_2_3 := R_s_3.cell 2 rfl
        have c_s_3_3 := R_s_3.cell 3 rfl
        have l_s_3 := R_s_3.lt
        have HB3 : Below w.heap.size w w3 := by (repeat' (first | (with_reducible exact Below.refl _ _) | (with_reducible assumption) | (with_reducible exact Bw.out (by with_reducible assumption)) | (with_reducible refine bw_alloc ?_ _) | (with_reducible refine bw_step ?_ (by with_reducible assumption)) | (with_reducible refine Below.alloc ?_ ?_ _) | (with_reducible refine Below.drew ?_) | (with_reducible refine below_drewN ?_ _) | (with_reducible refine Below.setCell ?_ ?_ _) | (with_reducible refine below_step ?_ (by with_reducible assumption) ?_) | (with_reducible exact Nat.le_refl _) | omega | (simp; omega) | (simp; done)))
        clear hb2 HB2
        go_wp2_with fail
        go_loop [7, 13] (fun u v => u = .bool true ∧ ∃ j : Nat, j ≤ n ∧ v = .int .i64 j) (fun _ v => n - (intOf v).toNat)
        case atStart => exact ⟨rfl, 0, Nat.zero_le _, rfl⟩
        case round =>
          obtain ⟨rfl, j, hj, rfl⟩ := hrel
          by_cases hlt : j < n
          · obtain ⟨b1, o1, z, e, _, e1, g1, _, _⟩ := KN.sl.get hlt
            subst e
            have hz : z ≤ most := nights_le HNO.out g1.out (by rw [HLen.out]; exact hlt)
            have j1 : (0 : Int) ≤ (j : Int) := by omega
            have j2 : (j : Int) < (n : Int) := by omega
            clear g1
            go_wp2_with fail
            go_round
            case rel => exact ⟨rfl, j + 1, by omega, by go_num⟩
            case measure => simp [intOf]; omega
          · obtain rfl : n = j := by omega
            go_wp2_with fail
            refine (R_sameScene 0 0 0 0 none none none none 0 0 0 0 0 0 0 0 [] [] [] [] _ (SlC.nil _) (SlC.nil _) (SlC.nil _) (SlC.nil _) (by omega) (by omega) (by omega) (by omega) true (by decide +kernel)).mono ?_
            rintro e w4 ⟨rfl, hb4⟩
            have R_s_4 : Row w4 (w2.heap.size) [.int .i64 (0), .int .i64 (0), .slice none 0 0, .slice none 0 0] := by (repeat' (first | (with_reducible assumption) | (with_reducible refine Row.new' _ _ _ (by first | rfl | (simp; done) | omega)) | (with_reducible refine Row.alloc ?_ _) | (with_reducible refine Row.drew ?_) | (with_reducible refine Row.drewN ?_ _) | (with_reducible refine Row.step ?_ (by with_reducible assumption)) | (with_reducible refine Row.set2' ?_ _ _; first | exact ⟨_, _, by with_reducible assumption⟩ | exact ⟨_, _, Row.alloc (by with_reducible assumption) _⟩ | exact ⟨_, _, Row.alloc (Row.alloc (by with_reducible assumption) _) _⟩) | (with_reducible refine Row.other ?_ (by first | omega | (simp; done) | (simp; omega)) _)))
            have c_s_0_4 := R_s_4.cell 0 rfl
            have c_s_1_4 := R_s_4.cell 1 rfl
            have c_s_2_4 := R_s_4.cell 2 rfl
            have c_s_3_4 := R_s_4.cell 3 rfl
            have l_s_4 := R_s_4.lt
            have HB4 : Below w.heap.size w w4 := by (repeat' (first | (with_reducible exact Below.refl _ _) | (with_reducible assumption) | (with_reducible exact Bw.out (by with_reducible assumption)) | (with_reducible refine bw_alloc ?_ _) | (with_reducible refine bw_step ?_ (by with_reducible assumption)) | (with_reducible refine Below.alloc ?_ ?_ _) | (with_reducible refine Below.drew ?_) | (with_reducible refine below_drewN ?_ _) | (with_reducible refine Below.setCell ?_ ?_ _) | (with_reducible refine below_step ?_ (by with_reducible assumption) ?_) | (with_reducible exact Nat.le_refl _) | omega | (simp; omega) | (simp; done)))
            clear R_s_3 c_s_0_3 c_s_1_3 c_s_2_3 c_s_3_3 hb3 HB3
            go_wp2_with fail
            go_ret
            refine ⟨(by first | rfl | exact ret_bool (by first | rfl | (simp; done) | (simp; omega))), ?_⟩
            (repeat' (first | (with_reducible exact Below.refl _ _) | (with_reducible assumption) | (with_reducible exact Bw.out (by with_reducible assumption)) | (with_reducible refine bw_alloc ?_ _) | (with_reducible refine bw_step ?_ (by with_reducible assumption)) | (with_reducible refine Below.alloc ?_ ?_ _) | (with_reducible refine Below.drew ?_) | (with_reducible refine below_drewN ?_ _) | (with_reducible refine Below.setCell ?_ ?_ _) | (with_reducible refine below_step ?_ (by with_reducible assumption) ?_) | (with_reducible exact Nat.le_refl _) | omega | (simp; omega) | (simp; done)))
      · have hxn := nightsB_at HN.out hx
        obtain ⟨p1, p2, ⟨p3, p4⟩, p5, p6⟩ := nightB_parts hxn
        obtain ⟨hcx1, hcx2⟩ := HC.out x (List.mem_of_getElem? hx)
        have hin : i < n := by have := (List.getElem?_eq_some_iff.1 hx).1; rw [HLen.out] at this; exact this
        obtain ⟨W, hW⟩ : ∃ W, scW x.rooms x.sold most = W := ⟨_, rfl⟩
        obtain ⟨C, hC⟩ : ∃ C, sellC x.zs (scL x.rooms x.sold most) (topL x.zs k) = C := ⟨_, rfl⟩
        obtain ⟨S, hS⟩ : ∃ S, sellS x.zs (scL x.rooms x.sold most) (topL x.zs k) = S := ⟨_, rfl⟩
        obtain ⟨m, hm⟩ : ∃ m, C.length = m := ⟨_, rfl⟩
        have hparts := sc_parts m1 p2 (brk_wk.1 hbx)
        rw [hC, hm] at hparts
        have hmk : m ≤ k := hparts.1
        rw [hW, hS] at hparts
        obtain ⟨_, hnod, hWle, hWm, hsum, hcs⟩ := hparts
        have hSl : S.length = m := by rw [← hS, ← sell_len, hC]; exact hm
        have HW := Lib.hid hW
        have HCC := Lib.hid hC
        have HSS := Lib.hid hS
        have HM := Lib.hid hm
        have HX := Lib.hid hx
        have HI := Lib.hid hi
        have HBX := Lib.hid hbx
        have HBEF := Lib.hid hbefore
        have HNOD := Lib.hid hnod
        have HSUM := Lib.hid hsum
        have HCS := Lib.hid hcs
        have HSL := Lib.hid hSl
        have hWb : -400 ≤ W ∧ W ≤ 1001 := by rw [← hW]; unfold scW; omega
        obtain ⟨hWb1, hWb2⟩ := hWb
        clear hW hC hS hm hx hi hbx hbefore hnod hsum hcs hSl
        have i1 : (0 : Int) ≤ (i : Int) := by omega
        have i2 : (i : Int) < (n : Int) := by omega
        have dq1 : decide (n ≤ i) = false := by simp; omega
        have dq2 : decide ((i : Int) < 0) = false := by simp
        have dq3 : decide ((n : Int) ≤ (i : Int)) = false := by simp; omega
        go_enter Try.func11, Try.ntmps11
        go_wp2_with fail
        refine (w_head_any _).mono ?_
        rintro e w1 ⟨rfl, hb1⟩
        have HB1 : Below w.heap.size w w1 := by (repeat' (first | (with_reducible exact Below.refl _ _) | (with_reducible assumption) | (with_reducible exact Bw.out (by with_reducible assumption)) | (with_reducible refine bw_alloc ?_ _) | (with_reducible refine bw_step ?_ (by with_reducible assumption)) | (with_reducible refine Below.alloc ?_ ?_ _) | (with_reducible refine Below.drew ?_) | (with_reducible refine below_drewN ?_ _) | (with_reducible refine Below.setCell ?_ ?_ _) | (with_reducible refine below_step ?_ (by with_reducible assumption) ?_) | (with_reducible exact Nat.le_refl _) | omega | (simp; omega) | (simp; done)))
        go_wp2_with fail
        refine (R_few_any _ _ _ l _ (by omega) (HS.out.below (by (repeat' (first | (with_reducible exact Below.refl _ _) | (with_reducible assumption) | (with_reducible exact Bw.out (by with_reducible assumption)) | (with_reducible refine bw_alloc ?_ _) | (with_reducible refine bw_step ?_ (by with_reducible assumption)) | (with_reducible refine Below.alloc ?_ ?_ _) | (with_reducible refine Below.drew ?_) | (with_reducible refine below_drewN ?_ _) | (with_reducible refine Below.setCell ?_ ?_ _) | (with_reducible refine below_step ?_ (by with_reducible assumption) ?_) | (with_reducible exact Nat.le_refl _) | omega | (simp; omega) | (simp; done))))) true HF.out).mono ?_
        rintro e w' ⟨rfl, rfl⟩
        go_wp2_with fail
        refine (Promise_c _ _ _ l k most i x.rooms x.sold x.zs x.n x.cap _ (HS.out.below (by (repeat' (first | (with_reducible exact Below.refl _ _) | (with_reducible assumption) | (with_reducible exact Bw.out (by with_reducible assumption)) | (with_reducible refine bw_alloc ?_ _) | (with_reducible refine bw_step ?_ (by with_reducible assumption)) | (with_reducible refine Below.alloc ?_ ?_ _) | (with_reducible refine Below.drew ?_) | (with_reducible refine below_drewN ?_ _) | (with_reducible refine Below.setCell ?_ ?_ _) | (with_reducible refine below_step ?_ (by with_reducible assumption) ?_) | (with_reducible exact Nat.le_refl _) | omega | (simp; omega) | (simp; done))))) HC.out HB.out x.at' HX.out HI.out HBX.out W C S m HW.out HCC.out HSS.out HM.out _ rfl).mono ?_
        rintro e w2 ⟨a1, d1, a2, d2, rfl, K1, K2, hb2⟩
        have HB2 : Below w.heap.size w w2 := by (repeat' (first | (with_reducible exact Below.refl _ _) | (with_reducible assumption) | (with_reducible exact Bw.out (by with_reducible assumption)) | (with_reducible refine bw_alloc ?_ _) | (with_reducible refine bw_step ?_ (by with_reducible assumption)) | (with_reducible refine Below.alloc ?_ ?_ _) | (with_reducible refine Below.drew ?_) | (with_reducible refine below_drewN ?_ _) | (with_reducible refine Below.setCell ?_ ?_ _) | (with_reducible refine below_step ?_ (by with_reducible assumption) ?_) | (with_reducible exact Nat.le_refl _) | omega | (simp; omega) | (simp; done)))
        clear hb1 HB1
        go_wp2_with fail
        refine (Nights_c _ n _ l k _ (HS.out.below (by (repeat' (first | (with_reducible exact Below.refl _ _) | (with_reducible assumption) | (with_reducible exact Bw.out (by with_reducible assumption)) | (with_reducible refine bw_alloc ?_ _) | (with_reducible refine bw_step ?_ (by with_reducible assumption)) | (with_reducible refine Below.alloc ?_ ?_ _) | (with_reducible refine Below.drew ?_) | (with_reducible refine below_drewN ?_ _) | (with_reducible refine Below.setCell ?_ ?_ _) | (with_reducible refine below_step ?_ (by with_reducible assumption) ?_) | (with_reducible exact Nat.le_refl _) | omega | (simp; omega) | (simp; done))))) HC.out HN.out hk30).mono ?_
        rintro e w3 ⟨aN, dN, rfl, KN, hb3⟩
        have R_s_3 : Row w3 (w2.heap.size) [.int .i64 i, .int .i64 W, .slice a1 m d1, .slice a2 m d2] := by (repeat' (first | (with_reducible assumption) | (with_reducible refine Row.new' _ _ _ (by first | rfl | (simp; done) | omega)) | (with_reducible refine Row.alloc ?_ _) | (with_reducible refine Row.drew ?_) | (with_reducible refine Row.drewN ?_ _) | (with_reducible refine Row.step ?_ (by with_reducible assumption)) | (with_reducible refine Row.set2' ?_ _ _; first | exact ⟨_, _, by with_reducible assumption⟩ | exact ⟨_, _, Row.alloc (by with_reducible assumption) _⟩ | exact ⟨_, _, Row.alloc (Row.alloc (by with_reducible assumption) _) _⟩) | (with_reducible refine Row.other ?_ (by first | omega | (simp; done) | (simp; omega)) _)))
        have c_s_0_3 := R_s_3.cell 0 rfl
        have c_s_1_3 := R_s_3.cell 1 rfl
        have c_s_2_3 := R_s_3.cell 2 rfl
        have c_s_3_3 := R_s_3.cell 3 rfl
        have l_s_3 := R_s_3.lt
        replace K1 := K1.step (show Below w2.heap.size w2 w3 by (repeat' (first | (with_reducible exact Below.refl _ _) | (with_reducible assumption) | (with_reducible exact Bw.out (by with_reducible assumption)) | (with_reducible refine bw_alloc ?_ _) | (with_reducible refine bw_step ?_ (by with_reducible assumption)) | (with_reducible refine Below.alloc ?_ ?_ _) | (with_reducible refine Below.drew ?_) | (with_reducible refine below_drewN ?_ _) | (with_reducible refine Below.setCell ?_ ?_ _) | (with_reducible refine below_step ?_ (by with_reducible assumption) ?_) | (with_reducible exact Nat.le_refl _) | omega | (simp; omega) | (simp; done))))
        replace K2 := K2.step (show Below w2.heap.size w2 w3 by (repeat' (first | (with_reducible exact Below.refl _ _) | (with_reducible assumption) | (with_reducible exact Bw.out (by with_reducible assumption)) | (with_reducible refine bw_alloc ?_ _) | (with_reducible refine bw_step ?_ (by with_reducible assumption)) | (with_reducible refine Below.alloc ?_ ?_ _) | (with_reducible refine Below.drew ?_) | (with_reducible refine below_drewN ?_ _) | (with_reducible refine Below.setCell ?_ ?_ _) | (with_reducible refine below_step ?_ (by with_reducible assumption) ?_) | (with_reducible exact Nat.le_refl _) | omega | (simp; omega) | (simp; done))))
        have HB3 : Below w.heap.size w w3 := by (repeat' (first | (with_reducible exact Below.refl _ _) | (with_reducible assumption) | (with_reducible exact Bw.out (by with_reducible assumption)) | (with_reducible refine bw_alloc ?_ _) | (with_reducible refine bw_step ?_ (by with_reducible assumption)) | (with_reducible refine Below.alloc ?_ ?_ _) | (with_reducible refine Below.drew ?_) | (with_reducible refine below_drewN ?_ _) | (with_reducible refine Below.setCell ?_ ?_ _) | (with_reducible refine below_step ?_ (by with_reducible assumption) ?_) | (with_reducible exact Nat.le_refl _) | omega | (simp; omega) | (simp; done)))
        clear hb2 HB2
        obtain ⟨b1, o1, z, e, lb1, ez, g1, _, _⟩ := KN.sl.get hin
        subst e
        have hzW : W ≤ z := by
          have : z = wkI x.rooms x.sold x.zs k := by
            rw [← g1.out]
            simp [List.getD_eq_getElem?_getD, HX.out, wkN]
          rw [this]; exact hWle
        have t1 : decide ((k : Int) < (m : Int)) = false := by simp; omega
        have t2 : decide (k < m) = false := by simp; omega
        have t3 : ((m : Int) != (m : Int)) = false := by simp
        have t4 : decide (W ≤ most) = false := by simp; omega
        have t5 : decide (z < W) = false := by simp; omega
        have t6 : (m != m) = false := by simp
        clear g1 hWle
        obtain ⟨y, by1, oy, hy, hae, lby, KY, hyn, q0, q1, q2⟩ := ((HS.out.below HB3)).night HC.out hin
        have hxy := hy.out.symm.trans HX.out
        cases hxy
        subst hae
        have HKX := Lib.hid KY.out.sl
        go_wp2_with fail
        go_quiet (fail)
        go_upto_region 18 with fail
        generalize hW4 : w3.drewN _ = w4
        have HB34 : Below w3.heap.size w3 w4 := by rw [← hW4]; (repeat' (first | (with_reducible exact Below.refl _ _) | (with_reducible assumption) | (with_reducible exact Bw.out (by with_reducible assumption)) | (with_reducible refine bw_alloc ?_ _) | (with_reducible refine bw_step ?_ (by with_reducible assumption)) | (with_reducible refine Below.alloc ?_ ?_ _) | (with_reducible refine Below.drew ?_) | (with_reducible refine below_drewN ?_ _) | (with_reducible refine Below.setCell ?_ ?_ _) | (with_reducible refine below_step ?_ (by with_reducible assumption) ?_) | (with_reducible exact Nat.le_refl _) | omega | (simp; omega) | (simp; done)))
        have HB4 : Below w.heap.size w w4 := by (repeat' (first | (with_reducible exact Below.refl _ _) | (with_reducible assumption) | (with_reducible exact Bw.out (by with_reducible assumption)) | (with_reducible refine bw_alloc ?_ _) | (with_reducible refine bw_step ?_ (by with_reducible assumption)) | (with_reducible refine Below.alloc ?_ ?_ _) | (with_reducible refine Below.drew ?_) | (with_reducible refine below_drewN ?_ _) | (with_reducible refine Below.setCell ?_ ?_ _) | (with_reducible refine below_step ?_ (by with_reducible assumption) ?_) | (with_reducible exact Nat.le_refl _) | omega | (simp; omega) | (simp; done)))
        have R4 := R_s_3.step HB34
        have q0' := (HB34.cell (p := ⟨by1, oy + i * 3, none⟩) lby).trans q0
        have q1' := (HB34.cell (p := ⟨by1, oy + i * 3 + 1, none⟩) lby).trans q1
        have q2' := (HB34.cell (p := ⟨by1, oy + i * 3 + 2, none⟩) lby).trans q2
        have s0' := R4.cell 0 rfl
        have s1' := R4.cell 1 rfl
        have s2' := R4.cell 2 rfl
        have s3' := R4.cell 3 rfl
        have L1 := K1.step HB34
        have L2 := K2.step HB34
        have LX := KY.out.step HB34
        have lt4 := HB34.size
        clear hW4 q0 q1 q2 ez KN
        go_wp2_with fail
        generalize hW5 : w4.alloc _ = w5
        have Rn : Row w5 w4.heap.size [.int .i64 x.rooms, .int .i64 x.sold, .slice x.at' x.n x.cap] := by rw [← hW5]; (repeat' (first | (with_reducible assumption) | (with_reducible refine Row.new' _ _ _ (by first | rfl | (simp; done) | omega)) | (with_reducible refine Row.alloc ?_ _) | (with_reducible refine Row.drew ?_) | (with_reducible refine Row.drewN ?_ _) | (with_reducible refine Row.step ?_ (by with_reducible assumption))))
        have HB45 : Below w4.heap.size w4 w5 := by rw [← hW5]; (repeat' (first | (with_reducible exact Below.refl _ _) | (with_reducible assumption) | (with_reducible exact Bw.out (by with_reducible assumption)) | (with_reducible refine bw_alloc ?_ _) | (with_reducible refine bw_step ?_ (by with_reducible assumption)) | (with_reducible refine Below.alloc ?_ ?_ _) | (with_reducible refine Below.drew ?_) | (with_reducible refine below_drewN ?_ _) | (with_reducible refine Below.setCell ?_ ?_ _) | (with_reducible refine below_step ?_ (by with_reducible assumption) ?_) | (with_reducible exact Nat.le_refl _) | omega | (simp; omega) | (simp; done)))
        have HB5 : Below w.heap.size w w5 := by (repeat' (first | (with_reducible exact Below.refl _ _) | (with_reducible assumption) | (with_reducible exact Bw.out (by with_reducible assumption)) | (with_reducible refine bw_alloc ?_ _) | (with_reducible refine bw_step ?_ (by with_reducible assumption)) | (with_reducible refine Below.alloc ?_ ?_ _) | (with_reducible refine Below.drew ?_) | (with_reducible refine below_drewN ?_ _) | (with_reducible refine Below.setCell ?_ ?_ _) | (with_reducible refine below_step ?_ (by with_reducible assumption) ?_) | (with_reducible exact Nat.le_refl _) | omega | (simp; omega) | (simp; done)))
        have Rs := R4.step HB45
        replace L1 := L1.step HB45
        replace L2 := L2.step HB45
        replace LX := LX.step HB45
        obtain ⟨Bn, hBn⟩ : ∃ B, w4.heap.size = B := ⟨_, rfl⟩
        obtain ⟨Bs, hBs⟩ : ∃ B, w2.heap.size = B := ⟨_, rfl⟩
        rw [hBn] at Rn ⊢
        rw [hBs] at Rs ⊢
        clear hW5 hBn hBs HB45 HB34 HB4 R4 lt4 q0' q1' q2' s0' s1' s2' s3' R_s_3 K1 K2 KY lby
        have n0' := Rn.cell 0 rfl
        have n1' := Rn.cell 1 rfl
        have n2' := Rn.cell 2 rfl
        have s0' := Rs.cell 0 rfl
        have s1' := Rs.cell 1 rfl
        have s2' := Rs.cell 2 rfl
        have s3' := Rs.cell 3 rfl
        have lBn := Rn.lt
        have lBs := Rs.lt
        have HXL := Lib.hid LX.1
        go_loopw [15, 16, 17, 18] (fun s j _ _ wr => ∃ (t : Nat) (D : Int), t ≤ m ∧ j = .int .i64 t ∧ s = .int .i64 (x.sold + D) ∧ 0 ≤ D ∧ D ≤ 400 * (t : Int) ∧ Hid ((S.take t).sum = D) ∧ Hid (∃ q, wr = w5.drewN q)) (fun _ j _ _ _ => m - (intOf j).toNat)
        case atStart => exact ⟨0, 0, Nat.zero_le _, rfl, by go_num, by omega, by omega, rfl, 0, rfl⟩
        case round =>
          obtain ⟨t, D, ht, rfl, rfl, hD1, hD2, hD, hq⟩ := hrel
          obtain ⟨qd, hq⟩ := hq.out
          subst hq
          by_cases hlt : t < m
          · obtain ⟨bc, oc, cc, e, _, ec, gc, _, _⟩ := L1.sl.get hlt
            subst e
            obtain ⟨bs, os, ss, e, _, es, gs, _, _⟩ := L2.sl.get hlt
            subst e
            obtain ⟨⟨c3, c4⟩, c5, c6⟩ := HCS.out t hlt
            rw [gc.out] at c3 c4 c6
            rw [gs.out] at c5 c6
            obtain ⟨u, rfl⟩ := Int.eq_ofNat_of_zero_le c3
            have hun : u < x.n := by have := HXL.out; omega
            obtain ⟨bz, oz, z, e, _, ez, gz, _, gzm⟩ := LX.sl.get hun
            unfold shr at c6
            rw [Int.toNat_natCast, gz.out] at c6
            obtain ⟨z1, z2⟩ := p2 z gzm.out
            have hsum : (S.take (t + 1)).sum = D + ss := by
              rw [take_succ_getD (by rw [HSL.out]; exact hlt), gs.out, List.sum_append, hD.out]
              simp
            have HSM := Lib.hid hsum
            have j1 : (0 : Int) ≤ (t : Int) := by omega
            have j2 : (t : Int) < (m : Int) := by omega
            have u1 : (0 : Int) ≤ (u : Int) := by omega
            have u2 : (u : Int) < (x.n : Int) := by omega
            have d1 : decide ((u : Int) < 0) = false := by simp
            have d2 : decide ((x.n : Int) ≤ (u : Int)) = false := by simp; omega
            have d3 : decide (ss < 1) = false := by simp; omega
            have d4 : decide (z < ss) = false := by simp; omega
            have GC := Lib.hid gc.out
            clear hsum gs hD gz gc
            go_wp2_with fail
            go_quiet (fail)
            go_wp2_with fail
            go_loop [18] (fun v => ∃ d : Nat, d ≤ t ∧ v = .int .i64 d) (fun v => t - (intOf v).toNat)
            case atStart => exact ⟨0, Nat.zero_le _, rfl⟩
            case round =>
              obtain ⟨d, hdt, rfl⟩ := hrel
              by_cases hd : d < t
              · obtain ⟨be, oe, ce, e, _, ee, ge, _, _⟩ := L1.sl.get (show d < m by omega)
                cases e
                have hne : ce ≠ (u : Int) := by
                  rw [← ge.out, ← GC.out]
                  exact getD_ne HNOD.out hd (by rw [HM.out]; exact hlt)
                have t7 : (ce == (u : Int)) = false := by simp; exact hne
                have e1' : (0 : Int) ≤ (d : Int) := by omega
                have e2' : (d : Int) < (m : Int) := by omega
                clear ge
                go_wp2_with fail
                go_round
                case rel => exact ⟨d + 1, by omega, by go_num⟩
                case measure => simp [intOf]; omega
              · obtain rfl : t = d := by omega
                go_wp2_with fail
                go_roundw
                case rel => (repeat apply Exists.intro (α := Value)); exact ⟨⟨t + 1, by omega, by go_num, D + ss, by go_num, by omega, by omega, HSM, _, rfl⟩, rfl, rfl, rfl⟩
                case measure => simp [intOf]; omega
          · obtain rfl : m = t := by omega
            have hDW : D = W - (x.sold - x.rooms) := by
              have h1 := HSUM.out
              rw [← hD.out, List.take_of_length_le (by rw [HSL.out]; exact Nat.le_refl _)]
              exact h1
            have t7 : (W == x.sold + D - x.rooms) = true := by simp; omega
            go_wp2_with fail
            go_ret
            refine ⟨(by first | rfl | exact ret_bool (by first | rfl | (simp; done) | (simp; omega))), ?_⟩
            (repeat' (first | (with_reducible exact Below.refl _ _) | (with_reducible assumption) | (with_reducible exact Bw.out (by with_reducible assumption)) | (with_reducible refine bw_alloc ?_ _) | (with_reducible refine bw_step ?_ (by with_reducible assumption)) | (with_reducible refine Below.alloc ?_ ?_ _) | (with_reducible refine Below.drew ?_) | (with_reducible refine below_drewN ?_ _) | (with_reducible refine Below.setCell ?_ ?_ _) | (with_reducible refine below_step ?_ (by with_reducible assumption) ?_) | (with_reducible exact Nat.le_refl _) | omega | (simp; omega) | (simp; done)))


set_option maxRecDepth 100000 in
theorem worstScenes_lifted (os : Os) (started : os.Started) (H : Type) (enc : TypeId × Value → H) :
    ReturnsInHanded {} Try.checked os 11 .any (Rows.worstScenesSpec.pre6 enc Try.prog Try.f11 Rows.worstScenesRow.domain false) (Rows.worstScenesSpec.post enc Try.prog Try.f11 false true false false) := by
  refine returnsInHanded_of_change (C := Try.checked) own started (by kernel_rfl) Try.func11
    (ChangeSpec.witness6 (enc := enc) (C := Try.checked) false ⟨#[], #[.slice none 0 0, .int .i64 0, .int .i64 0], []⟩ 8 (by kernel_rfl) (by kernel_rfl) (by kernel_rfl) (by kernel_rfl)) ?_
  intro W base args ds gs before hval0 hW _ _
  have hval : ∀ (j : Nat) t v, Try.f11.params[j]? = some t → args[j]? = some v → Value.okWide Try.prog W .any base t v := hval0
  have hW' := hW
  obtain ⟨p, q, hA0, hV, rfl, hfz, hnd⟩ := hW
  obtain ⟨rfl, rfl⟩ := trodVars_none hV
  have hA : DataW.TrodAll enc Try.prog W 0 (fun _ => true) true Try.f11.params.toList args.toList ds p := hA0
  rw [Try.params11] at hA hval
  obtain ⟨v0, vs0, d0, ds0, p0, q0, hargs, rfl, rfl, h0, r0⟩ := trodAll_cons hA
  obtain ⟨v1, vs1, d1, ds1, p1, q1, rfl, rfl, rfl, h1, r1⟩ := trodAll_cons r0
  obtain ⟨v2, vs2, d2, ds2, p2, q2, rfl, rfl, rfl, h2, r2⟩ := trodAll_cons r1
  obtain ⟨rfl, rfl, rfl⟩ := trodAll_nil r2
  obtain rfl : args = #[v0, v1, v2] := by cases args; simp_all
  obtain ⟨a0_l, n0_l, c0_l, rfl⟩ := okWide_slice Try.underlying22 (hval 0 22 v0 rfl rfl)
  obtain ⟨fu_l, hf_l⟩ := h0
  obtain ⟨a_l, n_l, c_l, l_l, e_l, g1_l, g2_l, hs_l, wf_l⟩ := sln_of_nights (by simpa [Value.cells] using hf_l)
  cases e_l
  obtain ⟨c, rfl, rfl, rfl, wc⟩ := open_int Try.underlying3 (hval 1 3 v1 rfl rfl) h1
  obtain ⟨m, rfl, rfl, rfl, wm⟩ := open_int Try.underlying3 (hval 2 3 v2 rfl rfl) h2
  clear hA0 hval0
  refine (wscenes_walk _ _ _ l_l c m wf_l wc wm W ⟨hs_l, g1_l, g2_l⟩).mono fun e W' ⟨he, hb⟩ => ?_
  subst he
  exact ⟨_, rfl, law_post (B := 4) laidOut (by rw [Try.params11]; simp only [List.mem_cons, List.not_mem_nil, or_false, forall_eq_or_imp, forall_eq]; first | exact readable_worstScenes | (repeat' apply And.intro) <;> first | exact of_decide_eq_true (by kernel_rfl) | kernel_rfl) rfl Try.underlying4 rfl rfl hW' hb⟩

theorem worstScenes_over : Rows.worstScenesRow.holds Try.pinned (OpenSpec.ofChange Rows.worstScenesSpec) :=
  OpenClaim.holds_of_wide 11 Try.f11 rfl rfl rfl rfl rfl rfl rfl ⟨rfl, rfl, rfl, rfl, rfl⟩ rfl rfl rfl rfl rfl (by kernel_rfl) Try.func11 (by kernel_rfl)
    (of_decide_eq_true (by kernel_rfl)) (by unfold Func.isWrapper; first | (rw [if_pos (by decide +kernel)]; kernel_rfl) | (rw [if_neg (by decide +kernel)]; exact ⟨rfl, rfl⟩))
    (fun os started H enc _ => worstScenes_lifted os started H enc)

theorem worstScenes_holds : Rows.WorstScenesSaid := worstScenes_over
#print axioms worstScenes_holds
end Go.Proofs.Ytegkonedeledeaa
