/-
  TypesMatchesReference: for any expressions and rates, well-formed or not, all functions return what the reference implementation returns.
  No condition: for every input (what is not few is not looked at).
-/
import Derived.Test.YtcmodmchnokmgaaTyK
import Derived.Test.YtcmodmchnokmgaaOpenE
namespace Go.Proofs.Ytcmodmchnokmgaa
set_option linter.unusedSimpArgs false
set_option linter.unusedVariables false
open Go.ChangeShapes Go.WideShapes Go.ChangeAt Go.RowKit

theorem few_ra (l : List RateV) (a : Option Addr) (n cap : Nat) (w : World) (hm : n ≤ 9223372036854775807) (hs : SlR w a n l) (p : Bool) (hp : fewR l = p) :
    Calls Try.prog 15 #[.slice a n cap] w fun e w' => e = .returned (.bool p) ∧ Below w.heap.size w w' := by
  subst hp; exact R_few a n cap l w hm hs
theorem R_valid_ra (l : List RateV) (a : Option Addr) (n cap : Nat) (w : World) (hm : n ≤ 9223372036854775807) (hs : SlR w a n l) (p : Bool) (hp : validR l = p) :
    Calls Try.prog 21 #[.slice a n cap] w fun e w' => e = .returned (.bool p) ∧ Below w.heap.size w w' := by
  subst hp; exact R_valid10 a n cap l w hm hs
theorem R_infer_p (x : Ex) (w : World) (h : x.In w) (V E : Int) (hV : inferV x = V) (hE : inferE x = E) :
    Calls Try.prog 17 #[.agg #[.int .i64 x.op, .int .i64 x.n, .slice x.at' x.ks.length x.cap]] w fun e w' => e = .returned (.tuple #[.int .i64 V, .int .i64 E]) ∧ Below w.heap.size w w' := by
  subst hV hE; exact R_infer x w h
theorem R_rate_pe (r : RateV) (w : World) (h : r.In w) (p : Bool) (E : Int) (hp : rateB r = p) (hE : rateE r = E) :
    Calls Try.prog 19 #[.agg #[.int .i64 r.id, .int .i64 r.lv, .int .i64 r.kd, .int .i64 r.fr, .int .i64 r.un, .int .i64 r.ls, .int .i64 r.ms, .int .i64 r.ar, .int .i64 r.kn, .int .i64 r.kk, .int .i64 r.wh.op, .int .i64 r.wh.n, .slice r.wh.at' r.wh.ks.length r.wh.cap, .int .i64 r.pr.op, .int .i64 r.pr.n, .slice r.pr.at' r.pr.ks.length r.pr.cap]] w fun e w' => e = .returned (.tuple #[.bool p, .int .i64 E]) ∧ Below w.heap.size w w' := by
  subst hp hE; exact R_rate r w h

set_option maxRecDepth 100000 in
set_option maxHeartbeats 6400000 in
theorem matches_walk (x : Ex) (r : RateV) (a : Option Addr) (n cap : Nat) (l : List RateV) (_ : x.Wf) (_ : r.Wf) (_ : ∀ y ∈ l, y.Wf) (w : World) (hx : x.In w) (hr : r.In w) (hl : SlR w a n l ∧ n ≤ cap ∧ cap ≤ maxLen) :
    Calls Try.prog 3 #[x.val, r.val, .slice a n cap] w fun e w' => e = .returned (.bool true) ∧ Below w.heap.size w w' := by
  have HX := Lib.hid hx
  have HRI := Lib.hid hr
  have HL := Lib.hid hl.1
  have hm : n ≤ 9223372036854775807 := by have h1 := hl.2.1; have h2 := hl.2.2; unfold maxLen at h2; omega
  obtain ⟨p1, hp⟩ : ∃ p, fewE x = p := ⟨_, rfl⟩
  have P1 := Lib.hid hp
  clear hp
  obtain ⟨p2, hp⟩ : ∃ p, fewR [r] = p := ⟨_, rfl⟩
  have P2 := Lib.hid hp
  clear hp
  obtain ⟨p3, hp⟩ : ∃ p, fewR l = p := ⟨_, rfl⟩
  have P3 := Lib.hid hp
  clear hp
  obtain ⟨V, hp⟩ : ∃ p, inferV x = p := ⟨_, rfl⟩
  have HV := Lib.hid hp
  clear hp
  obtain ⟨E, hp⟩ : ∃ p, inferE x = p := ⟨_, rfl⟩
  have HE := Lib.hid hp
  clear hp
  obtain ⟨B, hp⟩ : ∃ p, rateB r = p := ⟨_, rfl⟩
  have HB := Lib.hid hp
  clear hp
  obtain ⟨F, hp⟩ : ∃ p, rateE r = p := ⟨_, rfl⟩
  have HF := Lib.hid hp
  clear hp
  obtain ⟨K, hp⟩ : ∃ p, validR l = p := ⟨_, rfl⟩
  have HK := Lib.hid hp
  clear hp hx hr hl
  rw [show x.val = .agg #[.int .i64 x.op, .int .i64 x.n, .slice x.at' x.ks.length x.cap] from rfl, show r.val = .agg #[.int .i64 r.id, .int .i64 r.lv, .int .i64 r.kd, .int .i64 r.fr, .int .i64 r.un, .int .i64 r.ls, .int .i64 r.ms, .int .i64 r.ar, .int .i64 r.kn, .int .i64 r.kk, .int .i64 r.wh.op, .int .i64 r.wh.n, .slice r.wh.at' r.wh.ks.length r.wh.cap, .int .i64 r.pr.op, .int .i64 r.pr.n, .slice r.pr.at' r.pr.ks.length r.pr.cap] from rfl]
  go_enter Try.func3, Try.ntmps3
  go_wp2_with fail
  refine (head_any _).mono ?_
  rintro e w1 ⟨rfl, hb1⟩
  have R_e_1 : Row w1 (w.heap.size) [.int .i64 x.op, .int .i64 x.n, .slice x.at' x.ks.length x.cap] := by (repeat' (first | (with_reducible assumption) | (with_reducible refine Row.new' _ _ _ (by first | rfl | (simp; done) | omega)) | (with_reducible refine Row.alloc ?_ _) | (with_reducible refine Row.drew ?_) | (with_reducible refine Row.drewN ?_ _) | (with_reducible refine Row.step ?_ (by with_reducible assumption)) | (with_reducible refine Row.set2' ?_ _ _; first | exact ⟨_, _, by with_reducible assumption⟩ | exact ⟨_, _, Row.alloc (by with_reducible assumption) _⟩ | exact ⟨_, _, Row.alloc (Row.alloc (by with_reducible assumption) _) _⟩) | (with_reducible refine Row.other ?_ (by first | omega | (simp; done) | (simp; omega)) _)))
  have c_e_0_1 := R_e_1.cell 0 rfl
  have c_e_1_1 := R_e_1.cell 1 rfl
  have c_e_2_1 := R_e_1.cell 2 rfl
  have l_e_1 := R_e_1.lt
  have R_q_1 : Row w1 (w.heap.size + 1) [.int .i64 r.id, .int .i64 r.lv, .int .i64 r.kd, .int .i64 r.fr, .int .i64 r.un, .int .i64 r.ls, .int .i64 r.ms, .int .i64 r.ar, .int .i64 r.kn, .int .i64 r.kk, .int .i64 r.wh.op, .int .i64 r.wh.n, .slice r.wh.at' r.wh.ks.length r.wh.cap, .int .i64 r.pr.op, .int .i64 r.pr.n, .slice r.pr.at' r.pr.ks.length r.pr.cap] := by (repeat' (first | (with_reducible assumption) | (with_reducible refine Row.new' _ _ _ (by first | rfl | (simp; done) | omega)) | (with_reducible refine Row.alloc ?_ _) | (with_reducible refine Row.drew ?_) | (with_reducible refine Row.drewN ?_ _) | (with_reducible refine Row.step ?_ (by with_reducible assumption)) | (with_reducible refine Row.set2' ?_ _ _; first | exact ⟨_, _, by with_reducible assumption⟩ | exact ⟨_, _, Row.alloc (by with_reducible assumption) _⟩ | exact ⟨_, _, Row.alloc (Row.alloc (by with_reducible assumption) _) _⟩) | (with_reducible refine Row.other ?_ (by first | omega | (simp; done) | (simp; omega)) _)))
  have c_q_0_1 := R_q_1.cell 0 rfl
  have c_q_1_1 := R_q_1.cell 1 rfl
  have c_q_2_1 := R_q_1.cell 2 rfl
  have c_q_3_1 := R_q_1.cell 3 rfl
  have c_q_4_1 := R_q_1.cell 4 rfl
  have c_q_5_1 := R_q_1.cell 5 rfl
  have c_q_6_1 := R_q_1.cell 6 rfl
  have c_q_7_1 := R_q_1.cell 7 rfl
  have c_q_8_1 := R_q_1.cell 8 rfl
  have c_q_9_1 := R_q_1.cell 9 rfl
  have c_q_10_1 := R_q_1.cell 10 rfl
  have c_q_11_1 := R_q_1.cell 11 rfl
  have c_q_12_1 := R_q_1.cell 12 rfl
  have c_q_13_1 := R_q_1.cell 13 rfl
  have c_q_14_1 := R_q_1.cell 14 rfl
  have c_q_15_1 := R_q_1.cell 15 rfl
  have l_q_1 := R_q_1.lt
  have HB1 : Below w.heap.size w w1 := by (repeat' (first | (with_reducible exact Below.refl _ _) | (with_reducible assumption) | (with_reducible exact Bw.out (by with_reducible assumption)) | (with_reducible refine bw_alloc ?_ _) | (with_reducible refine bw_step ?_ (by with_reducible assumption)) | (with_reducible refine Below.alloc ?_ ?_ _) | (with_reducible refine Below.drew ?_) | (with_reducible refine below_drewN ?_ _) | (with_reducible refine Below.setCell ?_ ?_ _) | (with_reducible refine below_step ?_ (by with_reducible assumption) ?_) | (with_reducible exact Nat.le_refl _) | omega | (simp; omega) | (simp; done)))
  go_wp2_with fail
  refine (R_few_p x _ (HX.out.step HB1) p1 P1.out).mono ?_
  rintro e w2 ⟨rfl, hb2⟩
  have R_e_2 : Row w2 (w.heap.size) [.int .i64 x.op, .int .i64 x.n, .slice x.at' x.ks.length x.cap] := by (repeat' (first | (with_reducible assumption) | (with_reducible refine Row.new' _ _ _ (by first | rfl | (simp; done) | omega)) | (with_reducible refine Row.alloc ?_ _) | (with_reducible refine Row.drew ?_) | (with_reducible refine Row.drewN ?_ _) | (with_reducible refine Row.step ?_ (by with_reducible assumption)) | (with_reducible refine Row.set2' ?_ _ _; first | exact ⟨_, _, by with_reducible assumption⟩ | exact ⟨_, _, Row.alloc (by with_reducible assumption) _⟩ | exact ⟨_, _, Row.alloc (Row.alloc (by with_reducible assumption) _) _⟩) | (with_reducible refine Row.other ?_ (by first | omega | (simp; done) | (simp; omega)) _)))
  have c_e_0_2 := R_e_2.cell 0 rfl
  have c_e_1_2 := R_e_2.cell 1 rfl
  have c_e_2_2 := R_e_2.cell 2 rfl
  have l_e_2 := R_e_2.lt
  have R_q_2 : Row w2 (w.heap.size + 1) [.int .i64 r.id, .int .i64 r.lv, .int .i64 r.kd, .int .i64 r.fr, .int .i64 r.un, .int .i64 r.ls, .int .i64 r.ms, .int .i64 r.ar, .int .i64 r.kn, .int .i64 r.kk, .int .i64 r.wh.op, .int .i64 r.wh.n, .slice r.wh.at' r.wh.ks.length r.wh.cap, .int .i64 r.pr.op, .int .i64 r.pr.n, .slice r.pr.at' r.pr.ks.length r.pr.cap] := by (repeat' (first | (with_reducible assumption) | (with_reducible refine Row.new' _ _ _ (by first | rfl | (simp; done) | omega)) | (with_reducible refine Row.alloc ?_ _) | (with_reducible refine Row.drew ?_) | (with_reducible refine Row.drewN ?_ _) | (with_reducible refine Row.step ?_ (by with_reducible assumption)) | (with_reducible refine Row.set2' ?_ _ _; first | exact ⟨_, _, by with_reducible assumption⟩ | exact ⟨_, _, Row.alloc (by with_reducible assumption) _⟩ | exact ⟨_, _, Row.alloc (Row.alloc (by with_reducible assumption) _) _⟩) | (with_reducible refine Row.other ?_ (by first | omega | (simp; done) | (simp; omega)) _)))
  have c_q_0_2 := R_q_2.cell 0 rfl
  have c_q_1_2 := R_q_2.cell 1 rfl
  have c_q_2_2 := R_q_2.cell 2 rfl
  have c_q_3_2 := R_q_2.cell 3 rfl
  have c_q_4_2 := R_q_2.cell 4 rfl
  have c_q_5_2 := R_q_2.cell 5 rfl
  have c_q_6_2 := R_q_2.cell 6 rfl
  have c_q_7_2 := R_q_2.cell 7 rfl
  have c_q_8_2 := R_q_2.cell 8 rfl
  have c_q_9_2 := R_q_2.cell 9 rfl
  have c_q_10_2 := R_q_2.cell 10 rfl
  have c_q_11_2 := R_q_2.cell 11 rfl
  have c_q_12_2 := R_q_2.cell 12 rfl
  have c_q_13_2 := R_q_2.cell 13 rfl
  have c_q_14_2 := R_q_2.cell 14 rfl
  have c_q_15_2 := R_q_2.cell 15 rfl
  have l_q_2 := R_q_2.lt
  have HB2 : Below w.heap.size w w2 := by (repeat' (first | (with_reducible exact Below.refl _ _) | (with_reducible assumption) | (with_reducible exact Bw.out (by with_reducible assumption)) | (with_reducible refine bw_alloc ?_ _) | (with_reducible refine bw_step ?_ (by with_reducible assumption)) | (with_reducible refine Below.alloc ?_ ?_ _) | (with_reducible refine Below.drew ?_) | (with_reducible refine below_drewN ?_ _) | (with_reducible refine Below.setCell ?_ ?_ _) | (with_reducible refine below_step ?_ (by with_reducible assumption) ?_) | (with_reducible exact Nat.le_refl _) | omega | (simp; omega) | (simp; done)))
  clear R_e_1 c_e_0_1 c_e_1_1 c_e_2_1 R_q_1 c_q_0_1 c_q_1_1 c_q_2_1 c_q_3_1 c_q_4_1 c_q_5_1 c_q_6_1 c_q_7_1 c_q_8_1 c_q_9_1 c_q_10_1 c_q_11_1 c_q_12_1 c_q_13_1 c_q_14_1 c_q_15_1 hb1 HB1
  cases p1 with
  | false =>
    go_wp2_with fail
    go_ret
    refine ⟨(by first | rfl | exact ret_bool (by first | rfl | (simp; done) | (simp; omega))), ?_⟩
    (repeat' (first | (with_reducible exact Below.refl _ _) | (with_reducible assumption) | (with_reducible exact Bw.out (by with_reducible assumption)) | (with_reducible refine bw_alloc ?_ _) | (with_reducible refine bw_step ?_ (by with_reducible assumption)) | (with_reducible refine Below.alloc ?_ ?_ _) | (with_reducible refine Below.drew ?_) | (with_reducible refine below_drewN ?_ _) | (with_reducible refine Below.setCell ?_ ?_ _) | (with_reducible refine below_step ?_ (by with_reducible assumption) ?_) | (with_reducible exact Nat.le_refl _) | omega | (simp; omega) | (simp; done)))
  | true =>
    go_wp2_with fail
    have HIL : Hid (SlR (w2.alloc (.cells #[.int .i64 r.id, .int .i64 r.lv, .int .i64 r.kd, .int .i64 r.fr, .int .i64 r.un, .int .i64 r.ls, .int .i64 r.ms, .int .i64 r.ar, .int .i64 r.kn, .int .i64 r.kk, .int .i64 r.wh.op, .int .i64 r.wh.n, .slice r.wh.at' r.wh.ks.length r.wh.cap, .int .i64 r.pr.op, .int .i64 r.pr.n, .slice r.pr.at' r.pr.ks.length r.pr.cap] 30)) (some ⟨w2.heap.size, 0, none⟩) 1 [r]) := slr_new [r] _ _ rfl rfl (fun y hy => by simp at hy; subst hy; exact HRI.out.step HB2) 1 rfl
    refine (few_ra [r] _ 1 1 _ (by omega) HIL.out p2 P2.out).mono ?_
    rintro e w3 ⟨rfl, hb3⟩
    have R_e_3 : Row w3 (w.heap.size) [.int .i64 x.op, .int .i64 x.n, .slice x.at' x.ks.length x.cap] := by (repeat' (first | (with_reducible assumption) | (with_reducible refine Row.new' _ _ _ (by first | rfl | (simp; done) | omega)) | (with_reducible refine Row.alloc ?_ _) | (with_reducible refine Row.drew ?_) | (with_reducible refine Row.drewN ?_ _) | (with_reducible refine Row.step ?_ (by with_reducible assumption)) | (with_reducible refine Row.set2' ?_ _ _; first | exact ⟨_, _, by with_reducible assumption⟩ | exact ⟨_, _, Row.alloc (by with_reducible assumption) _⟩ | exact ⟨_, _, Row.alloc (Row.alloc (by with_reducible assumption) _) _⟩) | (with_reducible refine Row.other ?_ (by first | omega | (simp; done) | (simp; omega)) _)))
    have c_e_0_3 := R_e_3.cell 0 rfl
    have c_e_1_3 := R_e_3.cell 1 rfl
    have c_e_2_3 := R_e_3.cell 2 rfl
    have l_e_3 := R_e_3.lt
    have R_q_3 : Row w3 (w.heap.size + 1) [.int .i64 r.id, .int .i64 r.lv, .int .i64 r.kd, .int .i64 r.fr, .int .i64 r.un, .int .i64 r.ls, .int .i64 r.ms, .int .i64 r.ar, .int .i64 r.kn, .int .i64 r.kk, .int .i64 r.wh.op, .int .i64 r.wh.n, .slice r.wh.at' r.wh.ks.length r.wh.cap, .int .i64 r.pr.op, .int .i64 r.pr.n, .slice r.pr.at' r.pr.ks.length r.pr.cap] := by (repeat' (first | (with_reducible assumption) | (with_reducible refine Row.new' _ _ _ (by first | rfl | (simp; done) | omega)) | (with_reducible refine Row.alloc ?_ _) | (with_reducible refine Row.drew ?_) | (with_reducible refine Row.drewN ?_ _) | (with_reducible refine Row.step ?_ (by with_reducible assumption)) | (with_reducible refine Row.set2' ?_ _ _; first | exact ⟨_, _, by with_reducible assumption⟩ | exact ⟨_, _, Row.alloc (by with_reducible assumption) _⟩ | exact ⟨_, _, Row.alloc (Row.alloc (by with_reducible assumption) _) _⟩) | (with_reducible refine Row.other ?_ (by first | omega | (simp; done) | (simp; omega)) _)))
    have c_q_0_3 := R_q_3.cell 0 rfl
    have c_q_1_3 := R_q_3.cell 1 rfl
    have c_q_2_3 := R_q_3.cell 2 rfl
    have c_q_3_3 := R_q_3.cell 3 rfl
    have c_q_4_3 := R_q_3.cell 4 rfl
    have c_q_5_3 := R_q_3.cell 5 rfl
    have c_q_6_3 := R_q_3.cell 6 rfl
    have c_q_7_3 := R_q_3.cell 7 rfl
    have c_q_8_3 := R_q_3.cell 8 rfl
    have c_q_9_3 := R_q_3.cell 9 rfl
    have c_q_10_3 := R_q_3.cell 10 rfl
    have c_q_11_3 := R_q_3.cell 11 rfl
    have c_q_12_3 := R_q_3.cell 12 rfl
    have c_q_13_3 := R_q_3.cell 13 rfl
    have c_q_14_3 := R_q_3.cell 14 rfl
    have c_q_15_3 := R_q_3.cell 15 rfl
    have l_q_3 := R_q_3.lt
    have HB3 : Below w.heap.size w w3 := by (repeat' (first | (with_reducible exact Below.refl _ _) | (with_reducible assumption) | (with_reducible exact Bw.out (by with_reducible assumption)) | (with_reducible refine bw_alloc ?_ _) | (with_reducible refine bw_step ?_ (by with_reducible assumption)) | (with_reducible refine Below.alloc ?_ ?_ _) | (with_reducible refine Below.drew ?_) | (with_reducible refine below_drewN ?_ _) | (with_reducible refine Below.setCell ?_ ?_ _) | (with_reducible refine below_step ?_ (by with_reducible assumption) ?_) | (with_reducible exact Nat.le_refl _) | omega | (simp; omega) | (simp; done)))
    clear R_e_2 c_e_0_2 c_e_1_2 c_e_2_2 R_q_2 c_q_0_2 c_q_1_2 c_q_2_2 c_q_3_2 c_q_4_2 c_q_5_2 c_q_6_2 c_q_7_2 c_q_8_2 c_q_9_2 c_q_10_2 c_q_11_2 c_q_12_2 c_q_13_2 c_q_14_2 c_q_15_2 hb2 HB2
    clear HIL
    cases p2 with
    | false =>
      go_wp2_with fail
      go_ret
      refine ⟨(by first | rfl | exact ret_bool (by first | rfl | (simp; done) | (simp; omega))), ?_⟩
      (repeat' (first | (with_reducible exact Below.refl _ _) | (with_reducible assumption) | (with_reducible exact Bw.out (by with_reducible assumption)) | (with_reducible refine bw_alloc ?_ _) | (with_reducible refine bw_step ?_ (by with_reducible assumption)) | (with_reducible refine Below.alloc ?_ ?_ _) | (with_reducible refine Below.drew ?_) | (with_reducible refine below_drewN ?_ _) | (with_reducible refine Below.setCell ?_ ?_ _) | (with_reducible refine below_step ?_ (by with_reducible assumption) ?_) | (with_reducible exact Nat.le_refl _) | omega | (simp; omega) | (simp; done)))
    | true =>
      go_wp2_with fail
      refine (few_ra l a n cap _ hm (HL.out.step HB3) p3 P3.out).mono ?_
      rintro e w4 ⟨rfl, hb4⟩
      have R_e_4 : Row w4 (w.heap.size) [.int .i64 x.op, .int .i64 x.n, .slice x.at' x.ks.length x.cap] := by (repeat' (first | (with_reducible assumption) | (with_reducible refine Row.new' _ _ _ (by first | rfl | (simp; done) | omega)) | (with_reducible refine Row.alloc ?_ _) | (with_reducible refine Row.drew ?_) | (with_reducible refine Row.drewN ?_ _) | (with_reducible refine Row.step ?_ (by with_reducible assumption)) | (with_reducible refine Row.set2' ?_ _ _; first | exact ⟨_, _, by with_reducible assumption⟩ | exact ⟨_, _, Row.alloc (by with_reducible assumption) _⟩ | exact ⟨_, _, Row.alloc (Row.alloc (by with_reducible assumption) _) _⟩) | (with_reducible refine Row.other ?_ (by first | omega | (simp; done) | (simp; omega)) _)))
      have c_e_0_4 := R_e_4.cell 0 rfl
      have c_e_1_4 := R_e_4.cell 1 rfl
      have c_e_2_4 := R_e_4.cell 2 rfl
      have l_e_4 := R_e_4.lt
      have R_q_4 : Row w4 (w.heap.size + 1) [.int .i64 r.id, .int .i64 r.lv, .int .i64 r.kd, .int .i64 r.fr, .int .i64 r.un, .int .i64 r.ls, .int .i64 r.ms, .int .i64 r.ar, .int .i64 r.kn, .int .i64 r.kk, .int .i64 r.wh.op, .int .i64 r.wh.n, .slice r.wh.at' r.wh.ks.length r.wh.cap, .int .i64 r.pr.op, .int .i64 r.pr.n, .slice r.pr.at' r.pr.ks.length r.pr.cap] := by (repeat' (first | (with_reducible assumption) | (with_reducible refine Row.new' _ _ _ (by first | rfl | (simp; done) | omega)) | (with_reducible refine Row.alloc ?_ _) | (with_reducible refine Row.drew ?_) | (with_reducible refine Row.drewN ?_ _) | (with_reducible refine Row.step ?_ (by with_reducible assumption)) | (with_reducible refine Row.set2' ?_ _ _; first | exact ⟨_, _, by with_reducible assumption⟩ | exact ⟨_, _, Row.alloc (by with_reducible assumption) _⟩ | exact ⟨_, _, Row.alloc (Row.alloc (by with_reducible assumption) _) _⟩) | (with_reducible refine Row.other ?_ (by first | omega | (simp; done) | (simp; omega)) _)))
      have c_q_0_4 := R_q_4.cell 0 rfl
      have c_q_1_4 := R_q_4.cell 1 rfl
      have c_q_2_4 := R_q_4.cell 2 rfl
      have c_q_3_4 := R_q_4.cell 3 rfl
      have c_q_4_4 := R_q_4.cell 4 rfl
      have c_q_5_4 := R_q_4.cell 5 rfl
      have c_q_6_4 := R_q_4.cell 6 rfl
      have c_q_7_4 := R_q_4.cell 7 rfl
      have c_q_8_4 := R_q_4.cell 8 rfl
      have c_q_9_4 := R_q_4.cell 9 rfl
      have c_q_10_4 := R_q_4.cell 10 rfl
      have c_q_11_4 := R_q_4.cell 11 rfl
      have c_q_12_4 := R_q_4.cell 12 rfl
      have c_q_13_4 := R_q_4.cell 13 rfl
      have c_q_14_4 := R_q_4.cell 14 rfl
      have c_q_15_4 := R_q_4.cell 15 rfl
      have l_q_4 := R_q_4.lt
      have HB4 : Below w.heap.size w w4 := by (repeat' (first | (with_reducible exact Below.refl _ _) | (with_reducible assumption) | (with_reducible exact Bw.out (by with_reducible assumption)) | (with_reducible refine bw_alloc ?_ _) | (with_reducible refine bw_step ?_ (by with_reducible assumption)) | (with_reducible refine Below.alloc ?_ ?_ _) | (with_reducible refine Below.drew ?_) | (with_reducible refine below_drewN ?_ _) | (with_reducible refine Below.setCell ?_ ?_ _) | (with_reducible refine below_step ?_ (by with_reducible assumption) ?_) | (with_reducible exact Nat.le_refl _) | omega | (simp; omega) | (simp; done)))
      clear R_e_3 c_e_0_3 c_e_1_3 c_e_2_3 R_q_3 c_q_0_3 c_q_1_3 c_q_2_3 c_q_3_3 c_q_4_3 c_q_5_3 c_q_6_3 c_q_7_3 c_q_8_3 c_q_9_3 c_q_10_3 c_q_11_3 c_q_12_3 c_q_13_3 c_q_14_3 c_q_15_3 hb3 HB3
      cases p3 with
      | false =>
        go_wp2_with fail
        go_ret
        refine ⟨(by first | rfl | exact ret_bool (by first | rfl | (simp; done) | (simp; omega))), ?_⟩
        (repeat' (first | (with_reducible exact Below.refl _ _) | (with_reducible assumption) | (with_reducible exact Bw.out (by with_reducible assumption)) | (with_reducible refine bw_alloc ?_ _) | (with_reducible refine bw_step ?_ (by with_reducible assumption)) | (with_reducible refine Below.alloc ?_ ?_ _) | (with_reducible refine Below.drew ?_) | (with_reducible refine below_drewN ?_ _) | (with_reducible refine Below.setCell ?_ ?_ _) | (with_reducible refine below_step ?_ (by with_reducible assumption) ?_) | (with_reducible exact Nat.le_refl _) | omega | (simp; omega) | (simp; done)))
      | true =>
        go_wp2_with fail
        refine (infer_p x _ (HX.out.step HB4) V E HV.out HE.out).mono ?_
        rintro e w5 ⟨rfl, hb5⟩
        have R_e_5 : Row w5 (w.heap.size) [.int .i64 x.op, .int .i64 x.n, .slice x.at' x.ks.length x.cap] := by (repeat' (first | (with_reducible assumption) | (with_reducible refine Row.new' _ _ _ (by first | rfl | (simp; done) | omega)) | (with_reducible refine Row.alloc ?_ _) | (with_reducible refine Row.drew ?_) | (with_reducible refine Row.drewN ?_ _) | (with_reducible refine Row.step ?_ (by with_reducible assumption)) | (with_reducible refine Row.set2' ?_ _ _; first | exact ⟨_, _, by with_reducible assumption⟩ | exact ⟨_, _, Row.alloc (by with_reducible assumption) _⟩ | exact ⟨_, _, Row.alloc (Row.alloc (by with_reducible assumption) _) _⟩) | (with_reducible refine Row.other ?_ (by first | omega | (simp; done) | (simp; omega)) _)))
        have c_e_0_5 := R_e_5.cell 0 rfl
        have c_e_1_5 := R_e_5.cell 1 rfl
        have c_e_2_5 := R_e_5.cell 2 rfl
        have l_e_5 := R_e_5.lt
        have R_q_5 : Row w5 (w.heap.size + 1) [.int .i64 r.id, .int .i64 r.lv, .int .i64 r.kd, .int .i64 r.fr, .int .i64 r.un, .int .i64 r.ls, .int .i64 r.ms, .int .i64 r.ar, .int .i64 r.kn, .int .i64 r.kk, .int .i64 r.wh.op, .int .i64 r.wh.n, .slice r.wh.at' r.wh.ks.length r.wh.cap, .int .i64 r.pr.op, .int .i64 r.pr.n, .slice r.pr.at' r.pr.ks.length r.pr.cap] := by (repeat' (first | (with_reducible assumption) | (with_reducible refine Row.new' _ _ _ (by first | rfl | (simp; done) | omega)) | (with_reducible refine Row.alloc ?_ _) | (with_reducible refine Row.drew ?_) | (with_reducible refine Row.drewN ?_ _) | (with_reducible refine Row.step ?_ (by with_reducible assumption)) | (with_reducible refine Row.set2' ?_ _ _; first | exact ⟨_, _, by with_reducible assumption⟩ | exact ⟨_, _, Row.alloc (by with_reducible assumption) _⟩ | exact ⟨_, _, Row.alloc (Row.alloc (by with_reducible assumption) _) _⟩) | (with_reducible refine Row.other ?_ (by first | omega | (simp; done) | (simp; omega)) _)))
        have c_q_0_5 := R_q_5.cell 0 rfl
        have c_q_1_5 := R_q_5.cell 1 rfl
        have c_q_2_5 := R_q_5.cell 2 rfl
        have c_q_3_5 := R_q_5.cell 3 rfl
        have c_q_4_5 := R_q_5.cell 4 rfl
        have c_q_5_5 := R_q_5.cell 5 rfl
        have c_q_6_5 := R_q_5.cell 6 rfl
        have c_q_7_5 := R_q_5.cell 7 rfl
        have c_q_8_5 := R_q_5.cell 8 rfl
        have c_q_9_5 := R_q_5.cell 9 rfl
        have c_q_10_5 := R_q_5.cell 10 rfl
        have c_q_11_5 := R_q_5.cell 11 rfl
        have c_q_12_5 := R_q_5.cell 12 rfl
        have c_q_13_5 := R_q_5.cell 13 rfl
        have c_q_14_5 := R_q_5.cell 14 rfl
        have c_q_15_5 := R_q_5.cell 15 rfl
        have l_q_5 := R_q_5.lt
        have HB5 : Below w.heap.size w w5 := by (repeat' (first | (with_reducible exact Below.refl _ _) | (with_reducible assumption) | (with_reducible exact Bw.out (by with_reducible assumption)) | (with_reducible refine bw_alloc ?_ _) | (with_reducible refine bw_step ?_ (by with_reducible assumption)) | (with_reducible refine Below.alloc ?_ ?_ _) | (with_reducible refine Below.drew ?_) | (with_reducible refine below_drewN ?_ _) | (with_reducible refine Below.setCell ?_ ?_ _) | (with_reducible refine below_step ?_ (by with_reducible assumption) ?_) | (with_reducible exact Nat.le_refl _) | omega | (simp; omega) | (simp; done)))
        clear R_e_4 c_e_0_4 c_e_1_4 c_e_2_4 R_q_4 c_q_0_4 c_q_1_4 c_q_2_4 c_q_3_4 c_q_4_4 c_q_5_4 c_q_6_4 c_q_7_4 c_q_8_4 c_q_9_4 c_q_10_4 c_q_11_4 c_q_12_4 c_q_13_4 c_q_14_4 c_q_15_4 hb4 HB4
        go_wp2_with fail
        refine (R_infer_p x _ (HX.out.step HB5) V E HV.out HE.out).mono ?_
        rintro e w6 ⟨rfl, hb6⟩
        have R_e_6 : Row w6 (w.heap.size) [.int .i64 x.op, .int .i64 x.n, .slice x.at' x.ks.length x.cap] := by (repeat' (first | (with_reducible assumption) | (with_reducible refine Row.new' _ _ _ (by first | rfl | (simp; done) | omega)) | (with_reducible refine Row.alloc ?_ _) | (with_reducible refine Row.drew ?_) | (with_reducible refine Row.drewN ?_ _) | (with_reducible refine Row.step ?_ (by with_reducible assumption)) | (with_reducible refine Row.set2' ?_ _ _; first | exact ⟨_, _, by with_reducible assumption⟩ | exact ⟨_, _, Row.alloc (by with_reducible assumption) _⟩ | exact ⟨_, _, Row.alloc (Row.alloc (by with_reducible assumption) _) _⟩) | (with_reducible refine Row.other ?_ (by first | omega | (simp; done) | (simp; omega)) _)))
        have c_e_0_6 := R_e_6.cell 0 rfl
        have c_e_1_6 := R_e_6.cell 1 rfl
        have c_e_2_6 := R_e_6.cell 2 rfl
        have l_e_6 := R_e_6.lt
        have R_q_6 : Row w6 (w.heap.size + 1) [.int .i64 r.id, .int .i64 r.lv, .int .i64 r.kd, .int .i64 r.fr, .int .i64 r.un, .int .i64 r.ls, .int .i64 r.ms, .int .i64 r.ar, .int .i64 r.kn, .int .i64 r.kk, .int .i64 r.wh.op, .int .i64 r.wh.n, .slice r.wh.at' r.wh.ks.length r.wh.cap, .int .i64 r.pr.op, .int .i64 r.pr.n, .slice r.pr.at' r.pr.ks.length r.pr.cap] := by (repeat' (first | (with_reducible assumption) | (with_reducible refine Row.new' _ _ _ (by first | rfl | (simp; done) | omega)) | (with_reducible refine Row.alloc ?_ _) | (with_reducible refine Row.drew ?_) | (with_reducible refine Row.drewN ?_ _) | (with_reducible refine Row.step ?_ (by with_reducible assumption)) | (with_reducible refine Row.set2' ?_ _ _; first | exact ⟨_, _, by with_reducible assumption⟩ | exact ⟨_, _, Row.alloc (by with_reducible assumption) _⟩ | exact ⟨_, _, Row.alloc (Row.alloc (by with_reducible assumption) _) _⟩) | (with_reducible refine Row.other ?_ (by first | omega | (simp; done) | (simp; omega)) _)))
        have c_q_0_6 := R_q_6.cell 0 rfl
        have c_q_1_6 := R_q_6.cell 1 rfl
        have c_q_2_6 := R_q_6.cell 2 rfl
        have c_q_3_6 := R_q_6.cell 3 rfl
        have c_q_4_6 := R_q_6.cell 4 rfl
        have c_q_5_6 := R_q_6.cell 5 rfl
        have c_q_6_6 := R_q_6.cell 6 rfl
        have c_q_7_6 := R_q_6.cell 7 rfl
        have c_q_8_6 := R_q_6.cell 8 rfl
        have c_q_9_6 := R_q_6.cell 9 rfl
        have c_q_10_6 := R_q_6.cell 10 rfl
        have c_q_11_6 := R_q_6.cell 11 rfl
        have c_q_12_6 := R_q_6.cell 12 rfl
        have c_q_13_6 := R_q_6.cell 13 rfl
        have c_q_14_6 := R_q_6.cell 14 rfl
        have c_q_15_6 := R_q_6.cell 15 rfl
        have l_q_6 := R_q_6.lt
        have HB6 : Below w.heap.size w w6 := by (repeat' (first | (with_reducible exact Below.refl _ _) | (with_reducible assumption) | (with_reducible exact Bw.out (by with_reducible assumption)) | (with_reducible refine bw_alloc ?_ _) | (with_reducible refine bw_step ?_ (by with_reducible assumption)) | (with_reducible refine Below.alloc ?_ ?_ _) | (with_reducible refine Below.drew ?_) | (with_reducible refine below_drewN ?_ _) | (with_reducible refine Below.setCell ?_ ?_ _) | (with_reducible refine below_step ?_ (by with_reducible assumption) ?_) | (with_reducible exact Nat.le_refl _) | omega | (simp; omega) | (simp; done)))
        clear R_e_5 c_e_0_5 c_e_1_5 c_e_2_5 R_q_5 c_q_0_5 c_q_1_5 c_q_2_5 c_q_3_5 c_q_4_5 c_q_5_5 c_q_6_5 c_q_7_5 c_q_8_5 c_q_9_5 c_q_10_5 c_q_11_5 c_q_12_5 c_q_13_5 c_q_14_5 c_q_15_5 hb5 HB5
        go_wp2_with fail
        refine (rate_pe r _ (HRI.out.step HB6) B F ⟨HB.out, HF.out⟩).mono ?_
        rintro e w7 ⟨rfl, hb7⟩
        have R_e_7 : Row w7 (w.heap.size) [.int .i64 x.op, .int .i64 x.n, .slice x.at' x.ks.length x.cap] := by (repeat' (first | (with_reducible assumption) | (with_reducible refine Row.new' _ _ _ (by first | rfl | (simp; done) | omega)) | (with_reducible refine Row.alloc ?_ _) | (with_reducible refine Row.drew ?_) | (with_reducible refine Row.drewN ?_ _) | (with_reducible refine Row.step ?_ (by with_reducible assumption)) | (with_reducible refine Row.set2' ?_ _ _; first | exact ⟨_, _, by with_reducible assumption⟩ | exact ⟨_, _, Row.alloc (by with_reducible assumption) _⟩ | exact ⟨_, _, Row.alloc (Row.alloc (by with_reducible assumption) _) _⟩) | (with_reducible refine Row.other ?_ (by first | omega | (simp; done) | (simp; omega)) _)))
        have c_e_0_7 := R_e_7.cell 0 rfl
        have c_e_1_7 := R_e_7.cell 1 rfl
        have c_e_2_7 := R_e_7.cell 2 rfl
        have l_e_7 := R_e_7.lt
        have R_q_7 : Row w7 (w.heap.size + 1) [.int .i64 r.id, .int .i64 r.lv, .int .i64 r.kd, .int .i64 r.fr, .int .i64 r.un, .int .i64 r.ls, .int .i64 r.ms, .int .i64 r.ar, .int .i64 r.kn, .int .i64 r.kk, .int .i64 r.wh.op, .int .i64 r.wh.n, .slice r.wh.at' r.wh.ks.length r.wh.cap, .int .i64 r.pr.op, .int .i64 r.pr.n, .slice r.pr.at' r.pr.ks.length r.pr.cap] := by (repeat' (first | (with_reducible assumption) | (with_reducible refine Row.new' _ _ _ (by first | rfl | (simp; done) | omega)) | (with_reducible refine Row.alloc ?_ _) | (with_reducible refine Row.drew ?_) | (with_reducible refine Row.drewN ?_ _) | (with_reducible refine Row.step ?_ (by with_reducible assumption)) | (with_reducible refine Row.set2' ?_ _ _; first | exact ⟨_, _, by with_reducible assumption⟩ | exact ⟨_, _, Row.alloc (by with_reducible assumption) _⟩ | exact ⟨_, _, Row.alloc (Row.alloc (by with_reducible assumption) _) _⟩) | (with_reducible refine Row.other ?_ (by first | omega | (simp; done) | (simp; omega)) _)))
        have c_q_0_7 := R_q_7.cell 0 rfl
        have c_q_1_7 := R_q_7.cell 1 rfl
        have c_q_2_7 := R_q_7.cell 2 rfl
        have c_q_3_7 := R_q_7.cell 3 rfl
        have c_q_4_7 := R_q_7.cell 4 rfl
        have c_q_5_7 := R_q_7.cell 5 rfl
        have c_q_6_7 := R_q_7.cell 6 rfl
        have c_q_7_7 := R_q_7.cell 7 rfl
        have c_q_8_7 := R_q_7.cell 8 rfl
        have c_q_9_7 := R_q_7.cell 9 rfl
        have c_q_10_7 := R_q_7.cell 10 rfl
        have c_q_11_7 := R_q_7.cell 11 rfl
        have c_q_12_7 := R_q_7.cell 12 rfl
        have c_q_13_7 := R_q_7.cell 13 rfl
        have c_q_14_7 := R_q_7.cell 14 rfl
        have c_q_15_7 := R_q_7.cell 15 rfl
        have l_q_7 := R_q_7.lt
        have HB7 : Below w.heap.size w w7 := by (repeat' (first | (with_reducible exact Below.refl _ _) | (with_reducible assumption) | (with_reducible exact Bw.out (by with_reducible assumption)) | (with_reducible refine bw_alloc ?_ _) | (with_reducible refine bw_step ?_ (by with_reducible assumption)) | (with_reducible refine Below.alloc ?_ ?_ _) | (with_reducible refine Below.drew ?_) | (with_reducible refine below_drewN ?_ _) | (with_reducible refine Below.setCell ?_ ?_ _) | (with_reducible refine below_step ?_ (by with_reducible assumption) ?_) | (with_reducible exact Nat.le_refl _) | omega | (simp; omega) | (simp; done)))
        clear R_e_6 c_e_0_6 c_e_1_6 c_e_2_6 R_q_6 c_q_0_6 c_q_1_6 c_q_2_6 c_q_3_6 c_q_4_6 c_q_5_6 c_q_6_6 c_q_7_6 c_q_8_6 c_q_9_6 c_q_10_6 c_q_11_6 c_q_12_6 c_q_13_6 c_q_14_6 c_q_15_6 hb6 HB6
        go_wp2_with fail
        refine (R_rate_pe r _ (HRI.out.step HB7) B F HB.out HF.out).mono ?_
        rintro e w8 ⟨rfl, hb8⟩
        have R_e_8 : Row w8 (w.heap.size) [.int .i64 x.op, .int .i64 x.n, .slice x.at' x.ks.length x.cap] := by (repeat' (first | (with_reducible assumption) | (with_reducible refine Row.new' _ _ _ (by first | rfl | (simp; done) | omega)) | (with_reducible refine Row.alloc ?_ _) | (with_reducible refine Row.drew ?_) | (with_reducible refine Row.drewN ?_ _) | (with_reducible refine Row.step ?_ (by with_reducible assumption)) | (with_reducible refine Row.set2' ?_ _ _; first | exact ⟨_, _, by with_reducible assumption⟩ | exact ⟨_, _, Row.alloc (by with_reducible assumption) _⟩ | exact ⟨_, _, Row.alloc (Row.alloc (by with_reducible assumption) _) _⟩) | (with_reducible refine Row.other ?_ (by first | omega | (simp; done) | (simp; omega)) _)))
        have c_e_0_8 := R_e_8.cell 0 rfl
        have c_e_1_8 := R_e_8.cell 1 rfl
        have c_e_2_8 := R_e_8.cell 2 rfl
        have l_e_8 := R_e_8.lt
        have R_q_8 : Row w8 (w.heap.size + 1) [.int .i64 r.id, .int .i64 r.lv, .int .i64 r.kd, .int .i64 r.fr, .int .i64 r.un, .int .i64 r.ls, .int .i64 r.ms, .int .i64 r.ar, .int .i64 r.kn, .int .i64 r.kk, .int .i64 r.wh.op, .int .i64 r.wh.n, .slice r.wh.at' r.wh.ks.length r.wh.cap, .int .i64 r.pr.op, .int .i64 r.pr.n, .slice r.pr.at' r.pr.ks.length r.pr.cap] := by (repeat' (first | (with_reducible assumption) | (with_reducible refine Row.new' _ _ _ (by first | rfl | (simp; done) | omega)) | (with_reducible refine Row.alloc ?_ _) | (with_reducible refine Row.drew ?_) | (with_reducible refine Row.drewN ?_ _) | (with_reducible refine Row.step ?_ (by with_reducible assumption)) | (with_reducible refine Row.set2' ?_ _ _; first | exact ⟨_, _, by with_reducible assumption⟩ | exact ⟨_, _, Row.alloc (by with_reducible assumption) _⟩ | exact ⟨_, _, Row.alloc (Row.alloc (by with_reducible assumption) _) _⟩) | (with_reducible refine Row.other ?_ (by first | omega | (simp; done) | (simp; omega)) _)))
        have c_q_0_8 := R_q_8.cell 0 rfl
        have c_q_1_8 := R_q_8.cell 1 rfl
        have c_q_2_8 := R_q_8.cell 2 rfl
        have c_q_3_8 := R_q_8.cell 3 rfl
        have c_q_4_8 := R_q_8.cell 4 rfl
        have c_q_5_8 := R_q_8.cell 5 rfl
        have c_q_6_8 := R_q_8.cell 6 rfl
        have c_q_7_8 := R_q_8.cell 7 rfl
        have c_q_8_8 := R_q_8.cell 8 rfl
        have c_q_9_8 := R_q_8.cell 9 rfl
        have c_q_10_8 := R_q_8.cell 10 rfl
        have c_q_11_8 := R_q_8.cell 11 rfl
        have c_q_12_8 := R_q_8.cell 12 rfl
        have c_q_13_8 := R_q_8.cell 13 rfl
        have c_q_14_8 := R_q_8.cell 14 rfl
        have c_q_15_8 := R_q_8.cell 15 rfl
        have l_q_8 := R_q_8.lt
        have HB8 : Below w.heap.size w w8 := by (repeat' (first | (with_reducible exact Below.refl _ _) | (with_reducible assumption) | (with_reducible exact Bw.out (by with_reducible assumption)) | (with_reducible refine bw_alloc ?_ _) | (with_reducible refine bw_step ?_ (by with_reducible assumption)) | (with_reducible refine Below.alloc ?_ ?_ _) | (with_reducible refine Below.drew ?_) | (with_reducible refine below_drewN ?_ _) | (with_reducible refine Below.setCell ?_ ?_ _) | (with_reducible refine below_step ?_ (by with_reducible assumption) ?_) | (with_reducible exact Nat.le_refl _) | omega | (simp; omega) | (simp; done)))
        clear R_e_7 c_e_0_7 c_e_1_7 c_e_2_7 R_q_7 c_q_0_7 c_q_1_7 c_q_2_7 c_q_3_7 c_q_4_7 c_q_5_7 c_q_6_7 c_q_7_7 c_q_8_7 c_q_9_7 c_q_10_7 c_q_11_7 c_q_12_7 c_q_13_7 c_q_14_7 c_q_15_7 hb7 HB7
        go_wp2_with fail
        refine (valid_ra l a n cap _ hm (HL.out.step HB8) K HK.out).mono ?_
        rintro e w9 ⟨rfl, hb9⟩
        have R_e_9 : Row w9 (w.heap.size) [.int .i64 x.op, .int .i64 x.n, .slice x.at' x.ks.length x.cap] := by (repeat' (first | (with_reducible assumption) | (with_reducible refine Row.new' _ _ _ (by first | rfl | (simp; done) | omega)) | (with_reducible refine Row.alloc ?_ _) | (with_reducible refine Row.drew ?_) | (with_reducible refine Row.drewN ?_ _) | (with_reducible refine Row.step ?_ (by with_reducible assumption)) | (with_reducible refine Row.set2' ?_ _ _; first | exact ⟨_, _, by with_reducible assumption⟩ | exact ⟨_, _, Row.alloc (by with_reducible assumption) _⟩ | exact ⟨_, _, Row.alloc (Row.alloc (by with_reducible assumption) _) _⟩) | (with_reducible refine Row.other ?_ (by first | omega | (simp; done) | (simp; omega)) _)))
        have c_e_0_9 := R_e_9.cell 0 rfl
        have c_e_1_9 := R_e_9.cell 1 rfl
        have c_e_2_9 := R_e_9.cell 2 rfl
        have l_e_9 := R_e_9.lt
        have R_q_9 : Row w9 (w.heap.size + 1) [.int .i64 r.id, .int .i64 r.lv, .int .i64 r.kd, .int .i64 r.fr, .int .i64 r.un, .int .i64 r.ls, .int .i64 r.ms, .int .i64 r.ar, .int .i64 r.kn, .int .i64 r.kk, .int .i64 r.wh.op, .int .i64 r.wh.n, .slice r.wh.at' r.wh.ks.length r.wh.cap, .int .i64 r.pr.op, .int .i64 r.pr.n, .slice r.pr.at' r.pr.ks.length r.pr.cap] := by (repeat' (first | (with_reducible assumption) | (with_reducible refine Row.new' _ _ _ (by first | rfl | (simp; done) | omega)) | (with_reducible refine Row.alloc ?_ _) | (with_reducible refine Row.drew ?_) | (with_reducible refine Row.drewN ?_ _) | (with_reducible refine Row.step ?_ (by with_reducible assumption)) | (with_reducible refine Row.set2' ?_ _ _; first | exact ⟨_, _, by with_reducible assumption⟩ | exact ⟨_, _, Row.alloc (by with_reducible assumption) _⟩ | exact ⟨_, _, Row.alloc (Row.alloc (by with_reducible assumption) _) _⟩) | (with_reducible refine Row.other ?_ (by first | omega | (simp; done) | (simp; omega)) _)))
        have c_q_0_9 := R_q_9.cell 0 rfl
        have c_q_1_9 := R_q_9.cell 1 rfl
        have c_q_2_9 := R_q_9.cell 2 rfl
        have c_q_3_9 := R_q_9.cell 3 rfl
        have c_q_4_9 := R_q_9.cell 4 rfl
        have c_q_5_9 := R_q_9.cell 5 rfl
        have c_q_6_9 := R_q_9.cell 6 rfl
        have c_q_7_9 := R_q_9.cell 7 rfl
        have c_q_8_9 := R_q_9.cell 8 rfl
        have c_q_9_9 := R_q_9.cell 9 rfl
        have c_q_10_9 := R_q_9.cell 10 rfl
        have c_q_11_9 := R_q_9.cell 11 rfl
        have c_q_12_9 := R_q_9.cell 12 rfl
        have c_q_13_9 := R_q_9.cell 13 rfl
        have c_q_14_9 := R_q_9.cell 14 rfl
        have c_q_15_9 := R_q_9.cell 15 rfl
        have l_q_9 := R_q_9.lt
        have HB9 : Below w.heap.size w w9 := by (repeat' (first | (with_reducible exact Below.refl _ _) | (with_reducible assumption) | (with_reducible exact Bw.out (by with_reducible assumption)) | (with_reducible refine bw_alloc ?_ _) | (with_reducible refine bw_step ?_ (by with_reducible assumption)) | (with_reducible refine Below.alloc ?_ ?_ _) | (with_reducible refine Below.drew ?_) | (with_reducible refine below_drewN ?_ _) | (with_reducible refine Below.setCell ?_ ?_ _) | (with_reducible refine below_step ?_ (by with_reducible assumption) ?_) | (with_reducible exact Nat.le_refl _) | omega | (simp; omega) | (simp; done)))
        clear R_e_8 c_e_0_8 c_e_1_8 c_e_2_8 R_q_8 c_q_0_8 c_q_1_8 c_q_2_8 c_q_3_8 c_q_4_8 c_q_5_8 c_q_6_8 c_q_7_8 c_q_8_8 c_q_9_8 c_q_10_8 c_q_11_8 c_q_12_8 c_q_13_8 c_q_14_8 c_q_15_8 hb8 HB8
        go_wp2_with fail
        refine (R_valid_ra l a n cap _ hm (HL.out.step HB9) K HK.out).mono ?_
        rintro e w10 ⟨rfl, hb10⟩
        have R_e_10 : Row w10 (w.heap.size) [.int .i64 x.op, .int .i64 x.n, .slice x.at' x.ks.length x.cap] := by (repeat' (first | (with_reducible assumption) | (with_reducible refine Row.new' _ _ _ (by first | rfl | (simp; done) | omega)) | (with_reducible refine Row.alloc ?_ _) | (with_reducible refine Row.drew ?_) | (with_reducible refine Row.drewN ?_ _) | (with_reducible refine Row.step ?_ (by with_reducible assumption)) | (with_reducible refine Row.set2' ?_ _ _; first | exact ⟨_, _, by with_reducible assumption⟩ | exact ⟨_, _, Row.alloc (by with_reducible assumption) _⟩ | exact ⟨_, _, Row.alloc (Row.alloc (by with_reducible assumption) _) _⟩) | (with_reducible refine Row.other ?_ (by first | omega | (simp; done) | (simp; omega)) _)))
        have c_e_0_10 := R_e_10.cell 0 rfl
        have c_e_1_10 := R_e_10.cell 1 rfl
        have c_e_2_10 := R_e_10.cell 2 rfl
        have l_e_10 := R_e_10.lt
        have R_q_10 : Row w10 (w.heap.size + 1) [.int .i64 r.id, .int .i64 r.lv, .int .i64 r.kd, .int .i64 r.fr, .int .i64 r.un, .int .i64 r.ls, .int .i64 r.ms, .int .i64 r.ar, .int .i64 r.kn, .int .i64 r.kk, .int .i64 r.wh.op, .int .i64 r.wh.n, .slice r.wh.at' r.wh.ks.length r.wh.cap, .int .i64 r.pr.op, .int .i64 r.pr.n, .slice r.pr.at' r.pr.ks.length r.pr.cap] := by (repeat' (first | (with_reducible assumption) | (with_reducible refine Row.new' _ _ _ (by first | rfl | (simp; done) | omega)) | (with_reducible refine Row.alloc ?_ _) | (with_reducible refine Row.drew ?_) | (with_reducible refine Row.drewN ?_ _) | (with_reducible refine Row.step ?_ (by with_reducible assumption)) | (with_reducible refine Row.set2' ?_ _ _; first | exact ⟨_, _, by with_reducible assumption⟩ | exact ⟨_, _, Row.alloc (by with_reducible assumption) _⟩ | exact ⟨_, _, Row.alloc (Row.alloc (by with_reducible assumption) _) _⟩) | (with_reducible refine Row.other ?_ (by first | omega | (simp; done) | (simp; omega)) _)))
        have c_q_0_10 := R_q_10.cell 0 rfl
        have c_q_1_10 := R_q_10.cell 1 rfl
        have c_q_2_10 := R_q_10.cell 2 rfl
        have c_q_3_10 := R_q_10.cell 3 rfl
        have c_q_4_10 := R_q_10.cell 4 rfl
        have c_q_5_10 := R_q_10.cell 5 rfl
        have c_q_6_10 := R_q_10.cell 6 rfl
        have c_q_7_10 := R_q_10.cell 7 rfl
        have c_q_8_10 := R_q_10.cell 8 rfl
        have c_q_9_10 := R_q_10.cell 9 rfl
        have c_q_10_10 := R_q_10.cell 10 rfl
        have c_q_11_10 := R_q_10.cell 11 rfl
        have c_q_12_10 := R_q_10.cell 12 rfl
        have c_q_13_10 := R_q_10.cell 13 rfl
        have c_q_14_10 := R_q_10.cell 14 rfl
        have c_q_15_10 := R_q_10.cell 15 rfl
        have l_q_10 := R_q_10.lt
        have HB10 : Below w.heap.size w w10 := by (repeat' (first | (with_reducible exact Below.refl _ _) | (with_reducible assumption) | (with_reducible exact Bw.out (by with_reducible assumption)) | (with_reducible refine bw_alloc ?_ _) | (with_reducible refine bw_step ?_ (by with_reducible assumption)) | (with_reducible refine Below.alloc ?_ ?_ _) | (with_reducible refine Below.drew ?_) | (with_reducible refine below_drewN ?_ _) | (with_reducible refine Below.setCell ?_ ?_ _) | (with_reducible refine below_step ?_ (by with_reducible assumption) ?_) | (with_reducible exact Nat.le_refl _) | omega | (simp; omega) | (simp; done)))
        clear R_e_9 c_e_0_9 c_e_1_9 c_e_2_9 R_q_9 c_q_0_9 c_q_1_9 c_q_2_9 c_q_3_9 c_q_4_9 c_q_5_9 c_q_6_9 c_q_7_9 c_q_8_9 c_q_9_9 c_q_10_9 c_q_11_9 c_q_12_9 c_q_13_9 c_q_14_9 c_q_15_9 hb9 HB9
        go_wp2_with fail
        go_ret
        refine ⟨(by first | rfl | exact ret_bool (by first | rfl | (simp; done) | (simp; omega))), ?_⟩
        (repeat' (first | (with_reducible exact Below.refl _ _) | (with_reducible assumption) | (with_reducible exact Bw.out (by with_reducible assumption)) | (with_reducible refine bw_alloc ?_ _) | (with_reducible refine bw_step ?_ (by with_reducible assumption)) | (with_reducible refine Below.alloc ?_ ?_ _) | (with_reducible refine Below.drew ?_) | (with_reducible refine below_drewN ?_ _) | (with_reducible refine Below.setCell ?_ ?_ _) | (with_reducible refine below_step ?_ (by with_reducible assumption) ?_) | (with_reducible exact Nat.le_refl _) | omega | (simp; omega) | (simp; done)))


set_option maxRecDepth 100000 in
theorem typesMatchesReference_lifted (os : Os) (started : os.Started) (H : Type) (enc : TypeId × Value → H) :
    ReturnsInHanded {} Try.checked os 3 .any (Rows.typesMatchesReferenceSpec.pre6 enc Try.prog Try.f3 Rows.typesMatchesReferenceRow.domain false) (Rows.typesMatchesReferenceSpec.post enc Try.prog Try.f3 false true false false) := by
  refine returnsInHanded_of_change (C := Try.checked) own started (by kernel_rfl) Try.func3
    (ChangeSpec.witness6 (enc := enc) (C := Try.checked) false ⟨#[], #[.agg #[.int .i64 0, .int .i64 0, .slice none 0 0], .agg #[.int .i64 0, .int .i64 0, .int .i64 0, .int .i64 0, .int .i64 0, .int .i64 0, .int .i64 0, .int .i64 0, .int .i64 0, .int .i64 0, .int .i64 0, .int .i64 0, .slice none 0 0, .int .i64 0, .int .i64 0, .slice none 0 0], .slice none 0 0], []⟩ 8 (by kernel_rfl) (by kernel_rfl) (by kernel_rfl) (by kernel_rfl)) ?_
  intro W base args ds gs before hval0 hW _ _
  have hval : ∀ (j : Nat) t v, Try.f3.params[j]? = some t → args[j]? = some v → Value.okWide Try.prog W .any base t v := hval0
  have hW' := hW
  obtain ⟨p, q, hA0, hV, rfl, hfz, hnd⟩ := hW
  obtain ⟨rfl, rfl⟩ := trodVars_none hV
  have hA : DataW.TrodAll enc Try.prog W 0 (fun _ => true) true Try.f3.params.toList args.toList ds p := hA0
  rw [Try.params3] at hA hval
  obtain ⟨v0, vs0, d0, ds0, p0, q0, hargs, rfl, rfl, h0, r0⟩ := trodAll_cons hA
  obtain ⟨v1, vs1, d1, ds1, p1, q1, rfl, rfl, rfl, h1, r1⟩ := trodAll_cons r0
  obtain ⟨v2, vs2, d2, ds2, p2, q2, rfl, rfl, rfl, h2, r2⟩ := trodAll_cons r1
  obtain ⟨rfl, rfl, rfl⟩ := trodAll_nil r2
  obtain rfl : args = #[v0, v1, v2] := by cases args; simp_all
  obtain ⟨x, rfl, hs_x, wf_x⟩ := expr_arg (hval 0 24 v0 rfl rfl) h0
  obtain ⟨r, rfl, hs_r, wf_r⟩ := rate_arg (hval 1 30 v1 rfl rfl) h1
  obtain ⟨a0_l, n0_l, c0_l, rfl⟩ := okWide_slice Try.underlying31 (hval 2 31 v2 rfl rfl)
  obtain ⟨fu_l, hf_l⟩ := h2
  obtain ⟨a_l, n_l, c_l, l_l, e_l, g1_l, g2_l, hs_l, wf_l⟩ := slr_of_rates (by simpa [Value.cells] using hf_l)
  cases e_l
  clear hA0 hval0
  refine (matches_walk x r _ _ _ l_l wf_x wf_r wf_l W hs_x hs_r ⟨hs_l, g1_l, g2_l⟩).mono fun e W' ⟨he, hb⟩ => ?_
  subst he
  exact ⟨_, rfl, law_post (B := 4) laidOut (by rw [Try.params3]; simp only [List.mem_cons, List.not_mem_nil, or_false, forall_eq_or_imp, forall_eq]; first | exact readable_typesMatchesReference | (repeat' apply And.intro) <;> first | exact of_decide_eq_true (by kernel_rfl) | kernel_rfl) rfl Try.underlying4 rfl rfl hW' hb⟩

theorem typesMatchesReference_over : Rows.typesMatchesReferenceRow.holds Try.pinned (OpenSpec.ofChange Rows.typesMatchesReferenceSpec) :=
  OpenClaim.holds_of_wide 3 Try.f3 rfl rfl rfl rfl rfl rfl rfl ⟨rfl, rfl, rfl, rfl, rfl⟩ rfl rfl rfl rfl rfl (by kernel_rfl) Try.func3 (by kernel_rfl)
    (of_decide_eq_true (by kernel_rfl)) (by unfold Func.isWrapper; first | (rw [if_pos (by decide +kernel)]; kernel_rfl) | (rw [if_neg (by decide +kernel)]; exact ⟨rfl, rfl⟩))
    (fun os started H enc _ => typesMatchesReference_lifted os started H enc)

theorem typesMatchesReference_holds : Rows.TypesMatchesReferenceSaid := typesMatchesReference_over
#print axioms typesMatchesReference_holds

end Go.Proofs.Ytcmodmchnokmgaa
