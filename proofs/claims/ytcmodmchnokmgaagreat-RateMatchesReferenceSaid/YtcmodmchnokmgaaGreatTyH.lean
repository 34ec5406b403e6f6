/-
 The walks of the reference of layer 10: Form, Rate.
-/
import Derived.Test.YtcmodmchnokmgaaGreatTyF
import Derived.Test.YtcmodmchnokmgaaGreatTyD
import Derived.Test.YtcmodmchnokmgaaGreatRatR
namespace Go.Proofs.YtcmodmchnokmgaaGreat
set_option linter.unusedSimpArgs false
set_option linter.unusedVariables false
open Go.RowKit
theorem t_p (n lo hi : Int) (w : World) (p : Bool) (hp : inE n lo hi = p) : Calls Tryz.prog 104 #[.int .i64 n, .int .i64 lo, .int .i64 hi] w fun e w' => e = .returned (.bool p) ∧ Below w.heap.size w w' := by
 subst hp
 refine (t_within n lo hi w).mono ?_
 rintro e w' ⟨rfl, rfl⟩
 exact ⟨rfl, Below.refl _ _⟩
theorem R01_p (n d : Int) (w : World) (p : Bool) (hp : vld n d = p) : Calls Tryz.prog 67 #[.agg #[.int .i64 n, .int .i64 d]] w fun e w' => e = .returned (.bool p) ∧ Below w.heap.size w w' := by
 subst hp; exact R_valid_any n d w
theorem R08_p (x : Ex) (w : World) (h : x.In w) (p : Bool) (hp : validE x = p) : Calls Tryz.prog 17 #[.agg #[.int .i64 x.op, .int .i64 x.n, .slice x.at' x.ks.length x.cap]] w fun e w' => e = .returned (.bool p) ∧ Below w.heap.size w w' := by
 subst hp; exact R_valid8 x w h
theorem R_type_p (x : Ex) (w : World) (h : x.In w) (ho : validE x = true) (T : Int) (hT : x.ty = T) : Calls Tryz.prog 19 #[.agg #[.int .i64 x.op, .int .i64 x.n, .slice x.at' x.ks.length x.cap]] w fun e w' => e = .returned (.int .i64 T) ∧ Below w.heap.size w w' := by
 subst hT; exact R_type_all x.size x (Nat.le_refl _) w h (validE_ok ho)
set_option maxRecDepth 100000 in
set_option maxHeartbeats 6400000 in
theorem R_form (r : RateV) (w : World) (h : r.In w) :
  Calls Tryz.prog 62 #[r.val] w fun e w' => e = .returned (.bool (formB r)) ∧ Below w.heap.size w w' := by
 have HIN := Lib.hid h
 have HF : Hid (formB r = ((inE r.id 1 1000000 && (inE r.lv 0 100 && (inE r.kd 1 20 && inE r.ar 1 127))) &&
  ((decide (0 ≤ r.fr) && (decide (r.fr < r.un) && decide (r.un ≤ 366))) &&
  (vld r.kn r.kk && (inE r.kn 0 r.kk &&
  ((decide (1 ≤ r.ls) && (decide (r.ls ≤ r.ms) && decide (r.ms ≤ 60))) && (validE r.wh && validE r.pr))))))) := rfl
 obtain ⟨F, hF⟩ : ∃ F, formB r = F := ⟨_, rfl⟩
 rw [hF] at HF ⊢
 clear hF h
 obtain ⟨p1, hp⟩ : ∃ p, inE r.id 1 1000000 = p := ⟨_, rfl⟩
 have P1 := Lib.hid hp
 rw [hp] at HF
 clear hp
 obtain ⟨p2, hp⟩ : ∃ p, inE r.lv 0 100 = p := ⟨_, rfl⟩
 have P2 := Lib.hid hp
 rw [hp] at HF
 clear hp
 obtain ⟨p3, hp⟩ : ∃ p, inE r.kd 1 20 = p := ⟨_, rfl⟩
 have P3 := Lib.hid hp
 rw [hp] at HF
 clear hp
 obtain ⟨p4, hp⟩ : ∃ p, inE r.ar 1 127 = p := ⟨_, rfl⟩
 have P4 := Lib.hid hp
 rw [hp] at HF
 clear hp
 obtain ⟨k1, hp⟩ : ∃ p, vld r.kn r.kk = p := ⟨_, rfl⟩
 have K1 := Lib.hid hp
 rw [hp] at HF
 clear hp
 obtain ⟨v1, hp⟩ : ∃ p, validE r.wh = p := ⟨_, rfl⟩
 have V1 := Lib.hid hp
 rw [hp] at HF
 clear hp
 obtain ⟨v2, hp⟩ : ∃ p, validE r.pr = p := ⟨_, rfl⟩
 have V2 := Lib.hid hp
 rw [hp] at HF
 clear hp
 rw [show r.val = .agg #[.int .i64 r.id, .int .i64 r.lv, .int .i64 r.kd, .int .i64 r.fr, .int .i64 r.un, .int .i64 r.ls, .int .i64 r.ms, .int .i64 r.ar, .int .i64 r.kn, .int .i64 r.kk, .int .i64 r.wh.op, .int .i64 r.wh.n, .slice r.wh.at' r.wh.ks.length r.wh.cap, .int .i64 r.pr.op, .int .i64 r.pr.n, .slice r.pr.at' r.pr.ks.length r.pr.cap] from rfl]
 have R0 : Row (w.alloc (.cells #[.int .i64 r.id, .int .i64 r.lv, .int .i64 r.kd, .int .i64 r.fr, .int .i64 r.un, .int .i64 r.ls, .int .i64 r.ms, .int .i64 r.ar, .int .i64 r.kn, .int .i64 r.kk, .int .i64 r.wh.op, .int .i64 r.wh.n, .slice r.wh.at' r.wh.ks.length r.wh.cap, .int .i64 r.pr.op, .int .i64 r.pr.n, .slice r.pr.at' r.pr.ks.length r.pr.cap] 42)) w.heap.size [.int .i64 r.id, .int .i64 r.lv, .int .i64 r.kd, .int .i64 r.fr, .int .i64 r.un, .int .i64 r.ls, .int .i64 r.ms, .int .i64 r.ar, .int .i64 r.kn, .int .i64 r.kk, .int .i64 r.wh.op, .int .i64 r.wh.n, .slice r.wh.at' r.wh.ks.length r.wh.cap, .int .i64 r.pr.op, .int .i64 r.pr.n, .slice r.pr.at' r.pr.ks.length r.pr.cap] := by (repeat' (first | (with_reducible assumption) | (with_reducible refine Row.new' _ _ _ (by first | rfl | (simp; done) | omega)) | (with_reducible refine Row.alloc ?_ _) | (with_reducible refine Row.drew ?_) | (with_reducible refine Row.drewN ?_ _) | (with_reducible refine Row.step ?_ (by with_reducible assumption))))
 have B0 : Below w.heap.size w (w.alloc (.cells #[.int .i64 r.id, .int .i64 r.lv, .int .i64 r.kd, .int .i64 r.fr, .int .i64 r.un, .int .i64 r.ls, .int .i64 r.ms, .int .i64 r.ar, .int .i64 r.kn, .int .i64 r.kk, .int .i64 r.wh.op, .int .i64 r.wh.n, .slice r.wh.at' r.wh.ks.length r.wh.cap, .int .i64 r.pr.op, .int .i64 r.pr.n, .slice r.pr.at' r.pr.ks.length r.pr.cap] 42)) := by (repeat' (first | (with_reducible first | exact Below.refl _ _ | assumption | exact Bw.out (by assumption) | refine bw_alloc ?_ _ | refine bw_step ?_ (by assumption) | refine Below.alloc ?_ ?_ _ | refine Below.drew ?_ | refine below_drewN ?_ _ | refine Below.setCell ?_ ?_ _ | refine below_step ?_ (by assumption) ?_ | exact Nat.le_refl _) | omega | (simp; omega) | (simp; done)))
 have b0s := B0.size
 obtain ⟨x0, x1, x2, x3, x4, x5, x6, x7, x8, x9, xa, xb, xc, xd, xe, xf, xl⟩ := R0.rate
 go_enter Tryz.func62, Tryz.ntmps62
 go_wp2_with fail
 refine (t_p r.id 1 1000000 _ p1 P1.out).mono ?_
 rintro e w1 ⟨rfl, hb1⟩
 have R1 := R0.step hb1
 have B1 := B0.trans (hb1.mono b0s)
 have b1s := B1.size
 clear hb1 x0 x1 x2 x3 x4 x5 x6 x7 x8 x9 xa xb xc xd xe xf xl
 obtain ⟨x0, x1, x2, x3, x4, x5, x6, x7, x8, x9, xa, xb, xc, xd, xe, xf, xl⟩ := R1.rate
 cases p1 with
 | false =>
  have hn : F = false := by rw [HF.out]; simp
  subst hn
  go_wp2_with fail
  all_goals go_ret
  all_goals exact ⟨rfl, B1⟩
 | true =>
  go_wp2_with fail
  refine (t_p r.lv 0 100 _ p2 P2.out).mono ?_
  rintro e w2 ⟨rfl, hb2⟩
  have R2 := R1.step hb2
  have B2 := B1.trans (hb2.mono b1s)
  have b2s := B2.size
  clear hb2 x0 x1 x2 x3 x4 x5 x6 x7 x8 x9 xa xb xc xd xe xf xl
  obtain ⟨x0, x1, x2, x3, x4, x5, x6, x7, x8, x9, xa, xb, xc, xd, xe, xf, xl⟩ := R2.rate
  cases p2 with
  | false =>
   have hn : F = false := by rw [HF.out]; simp
   subst hn
   go_wp2_with fail
   all_goals go_ret
   all_goals exact ⟨rfl, B2⟩
  | true =>
   go_wp2_with fail
   refine (t_p r.kd 1 20 _ p3 P3.out).mono ?_
   rintro e w3 ⟨rfl, hb3⟩
   have R3 := R2.step hb3
   have B3 := B2.trans (hb3.mono b2s)
   have b3s := B3.size
   clear hb3 x0 x1 x2 x3 x4 x5 x6 x7 x8 x9 xa xb xc xd xe xf xl
   obtain ⟨x0, x1, x2, x3, x4, x5, x6, x7, x8, x9, xa, xb, xc, xd, xe, xf, xl⟩ := R3.rate
   cases p3 with
   | false =>
    have hn : F = false := by rw [HF.out]; simp
    subst hn
    go_wp2_with fail
    all_goals go_ret
    all_goals exact ⟨rfl, B3⟩
   | true =>
    by_cases c1 : r.fr < 0
    ·
     have c1' : ¬ (0 ≤ r.fr) := by omega
     have hn : F = false := by rw [HF.out]; simp [c1']
     subst hn
     go_wp2_with fail
     all_goals go_ret
     all_goals exact ⟨rfl, B3⟩
    have c1' : 0 ≤ r.fr := by omega
    by_cases c2 : r.un ≤ r.fr
    ·
     have c2' : ¬ (r.fr < r.un) := by omega
     have hn : F = false := by rw [HF.out]; simp [c2']
     subst hn
     go_wp2_with fail
     all_goals go_ret
     all_goals exact ⟨rfl, B3⟩
    have c2' : r.fr < r.un := by omega
    by_cases c3 : 366 < r.un
    ·
     have c3' : ¬ (r.un ≤ 366) := by omega
     have hn : F = false := by rw [HF.out]; simp [c3']
     subst hn
     go_wp2_with fail
     all_goals go_ret
     all_goals exact ⟨rfl, B3⟩
    have c3' : r.un ≤ 366 := by omega
    by_cases c4 : r.ls < 1
    ·
     have c4' : ¬ (1 ≤ r.ls) := by omega
     have hn : F = false := by rw [HF.out]; simp [c4']
     subst hn
     go_wp2_with fail
     all_goals go_ret
     all_goals exact ⟨rfl, B3⟩
    have c4' : 1 ≤ r.ls := by omega
    by_cases c5 : r.ms < r.ls
    ·
     have c5' : ¬ (r.ls ≤ r.ms) := by omega
     have hn : F = false := by rw [HF.out]; simp [c5']
     subst hn
     go_wp2_with fail
     all_goals go_ret
     all_goals exact ⟨rfl, B3⟩
    have c5' : r.ls ≤ r.ms := by omega
    by_cases c6 : 60 < r.ms
    ·
     have c6' : ¬ (r.ms ≤ 60) := by omega
     have hn : F = false := by rw [HF.out]; simp [c6']
     subst hn
     go_wp2_with fail
     all_goals go_ret
     all_goals exact ⟨rfl, B3⟩
    have c6' : r.ms ≤ 60 := by omega
    go_wp2_with fail
    refine (t_p r.ar 1 127 _ p4 P4.out).mono ?_
    rintro e w4 ⟨rfl, hb4⟩
    have R4 := R3.step hb4
    have B4 := B3.trans (hb4.mono b3s)
    have b4s := B4.size
    clear hb4 x0 x1 x2 x3 x4 x5 x6 x7 x8 x9 xa xb xc xd xe xf xl
    obtain ⟨x0, x1, x2, x3, x4, x5, x6, x7, x8, x9, xa, xb, xc, xd, xe, xf, xl⟩ := R4.rate
    cases p4 with
    | false =>
     have hn : F = false := by rw [HF.out]; simp
     subst hn
     go_wp2_with fail
     all_goals go_ret
     all_goals exact ⟨rfl, B4⟩
    | true =>
     go_wp2_with fail
     refine (R01_p r.kn r.kk _ k1 K1.out).mono ?_
     rintro e w5 ⟨rfl, hb5⟩
     have R5 := R4.step hb5
     have B5 := B4.trans (hb5.mono b4s)
     have b5s := B5.size
     clear hb5 x0 x1 x2 x3 x4 x5 x6 x7 x8 x9 xa xb xc xd xe xf xl
     obtain ⟨x0, x1, x2, x3, x4, x5, x6, x7, x8, x9, xa, xb, xc, xd, xe, xf, xl⟩ := R5.rate
     go_wp2_with fail
     refine (R08_p r.wh _ (HIN.out.1.step B5) v1 V1.out).mono ?_
     rintro e w6 ⟨rfl, hb6⟩
     have R6 := R5.step hb6
     have B6 := B5.trans (hb6.mono b5s)
     have b6s := B6.size
     clear hb6 x0 x1 x2 x3 x4 x5 x6 x7 x8 x9 xa xb xc xd xe xf xl
     obtain ⟨x0, x1, x2, x3, x4, x5, x6, x7, x8, x9, xa, xb, xc, xd, xe, xf, xl⟩ := R6.rate
     go_wp2_with fail
     refine (R08_p r.pr _ (HIN.out.2.step B6) v2 V2.out).mono ?_
     rintro e w7 ⟨rfl, hb7⟩
     have R7 := R6.step hb7
     have B7 := B6.trans (hb7.mono b6s)
     have b7s := B7.size
     clear hb7 x0 x1 x2 x3 x4 x5 x6 x7 x8 x9 xa xb xc xd xe xf xl
     obtain ⟨x0, x1, x2, x3, x4, x5, x6, x7, x8, x9, xa, xb, xc, xd, xe, xf, xl⟩ := R7.rate
     have HG : Hid (F = (k1 && (inE r.kn 0 r.kk && (v1 && v2)))) := by show _ = _; rw [HF.out]; simp [c1', c2', c3', c4', c5', c6']
     clear HF c1 c2 c3 c4 c5 c6 c1' c2' c3' c4' c5' c6'
     cases k1 with
     | false =>
      have hn : F = false := by rw [HG.out]; simp
      subst hn
      go_wp2_with fail
      all_goals go_ret
      all_goals exact ⟨rfl, B7⟩
     | true =>
      by_cases d1 : 0 ≤ r.kn
      ·
       by_cases d2 : r.kn ≤ r.kk
       ·
        cases v1 with
        | false =>
         have hn : F = false := by rw [HG.out]; simp
         subst hn
         go_wp2_with fail
         all_goals go_ret
         all_goals exact ⟨rfl, B7⟩
        | true =>
         have hn : F = v2 := by rw [HG.out]; unfold inE; simp [d1, d2]
         subst hn
         go_wp2_with fail
         all_goals go_ret
         all_goals exact ⟨by first | rfl | simp, B7⟩
       ·
        have hn : F = false := by rw [HG.out]; unfold inE; simp [d2]
        subst hn
        go_wp2_with fail
        all_goals go_ret
        all_goals exact ⟨by first | rfl | (simp; omega), B7⟩
      ·
       have hn : F = false := by rw [HG.out]; unfold inE; simp [d1]
       subst hn
       go_wp2_with fail
       all_goals go_ret
       all_goals exact ⟨by first | rfl | (simp; omega), B7⟩
theorem R_form_p (r : RateV) (w : World) (h : r.In w) (p : Bool) (hp : formB r = p) :
  Calls Tryz.prog 62 #[.agg #[.int .i64 r.id, .int .i64 r.lv, .int .i64 r.kd, .int .i64 r.fr, .int .i64 r.un, .int .i64 r.ls, .int .i64 r.ms, .int .i64 r.ar, .int .i64 r.kn, .int .i64 r.kk, .int .i64 r.wh.op, .int .i64 r.wh.n, .slice r.wh.at' r.wh.ks.length r.wh.cap, .int .i64 r.pr.op, .int .i64 r.pr.n, .slice r.pr.at' r.pr.ks.length r.pr.cap]] w fun e w' => e = .returned (.bool p) ∧ Below w.heap.size w w' := by
 subst hp; exact R_form r w h
set_option maxRecDepth 100000 in
set_option maxHeartbeats 3200000 in
theorem R_rate (r : RateV) (w : World) (h : r.In w) :
  Calls Tryz.prog 32 #[r.val] w fun e w' => e = .returned (.tuple #[.bool (rateB r), .int .i64 (rateE r)]) ∧ Below w.heap.size w w' := by
 have HIN := Lib.hid h
 rw [show r.val = .agg #[.int .i64 r.id, .int .i64 r.lv, .int .i64 r.kd, .int .i64 r.fr, .int .i64 r.un, .int .i64 r.ls, .int .i64 r.ms, .int .i64 r.ar, .int .i64 r.kn, .int .i64 r.kk, .int .i64 r.wh.op, .int .i64 r.wh.n, .slice r.wh.at' r.wh.ks.length r.wh.cap, .int .i64 r.pr.op, .int .i64 r.pr.n, .slice r.pr.at' r.pr.ks.length r.pr.cap] from rfl]
 cases hf : formB r with
 | false =>
  obtain ⟨e1, e2⟩ := rate_no hf
  rw [e1, e2]
  have HF := Lib.hid hf
  clear hf e1 e2 h
  have R0 : Row (w.alloc (.cells #[.int .i64 r.id, .int .i64 r.lv, .int .i64 r.kd, .int .i64 r.fr, .int .i64 r.un, .int .i64 r.ls, .int .i64 r.ms, .int .i64 r.ar, .int .i64 r.kn, .int .i64 r.kk, .int .i64 r.wh.op, .int .i64 r.wh.n, .slice r.wh.at' r.wh.ks.length r.wh.cap, .int .i64 r.pr.op, .int .i64 r.pr.n, .slice r.pr.at' r.pr.ks.length r.pr.cap] 42)) w.heap.size [.int .i64 r.id, .int .i64 r.lv, .int .i64 r.kd, .int .i64 r.fr, .int .i64 r.un, .int .i64 r.ls, .int .i64 r.ms, .int .i64 r.ar, .int .i64 r.kn, .int .i64 r.kk, .int .i64 r.wh.op, .int .i64 r.wh.n, .slice r.wh.at' r.wh.ks.length r.wh.cap, .int .i64 r.pr.op, .int .i64 r.pr.n, .slice r.pr.at' r.pr.ks.length r.pr.cap] := by (repeat' (first | (with_reducible assumption) | (with_reducible refine Row.new' _ _ _ (by first | rfl | (simp; done) | omega)) | (with_reducible refine Row.alloc ?_ _) | (with_reducible refine Row.drew ?_) | (with_reducible refine Row.drewN ?_ _) | (with_reducible refine Row.step ?_ (by with_reducible assumption))))
  have B0 : Below w.heap.size w (w.alloc (.cells #[.int .i64 r.id, .int .i64 r.lv, .int .i64 r.kd, .int .i64 r.fr, .int .i64 r.un, .int .i64 r.ls, .int .i64 r.ms, .int .i64 r.ar, .int .i64 r.kn, .int .i64 r.kk, .int .i64 r.wh.op, .int .i64 r.wh.n, .slice r.wh.at' r.wh.ks.length r.wh.cap, .int .i64 r.pr.op, .int .i64 r.pr.n, .slice r.pr.at' r.pr.ks.length r.pr.cap] 42)) := by (repeat' (first | (with_reducible first | exact Below.refl _ _ | assumption | exact Bw.out (by assumption) | refine bw_alloc ?_ _ | refine bw_step ?_ (by assumption) | refine Below.alloc ?_ ?_ _ | refine Below.drew ?_ | refine below_drewN ?_ _ | refine Below.setCell ?_ ?_ _ | refine below_step ?_ (by assumption) ?_ | exact Nat.le_refl _) | omega | (simp; omega) | (simp; done)))
  have b0s := B0.size
  obtain ⟨x0, x1, x2, x3, x4, x5, x6, x7, x8, x9, xa, xb, xc, xd, xe, xf, xl⟩ := R0.rate
  go_enter Tryz.func32, Tryz.ntmps32
  go_wp2_with fail
  refine (R_form_p r _ (HIN.out.step B0) _ HF.out).mono ?_
  rintro e w1 ⟨rfl, hb1⟩
  have R1 := R0.step hb1
  have B1 := B0.trans (hb1.mono b0s)
  have b1s := B1.size
  clear hb1 x0 x1 x2 x3 x4 x5 x6 x7 x8 x9 xa xb xc xd xe xf xl
  obtain ⟨x0, x1, x2, x3, x4, x5, x6, x7, x8, x9, xa, xb, xc, xd, xe, xf, xl⟩ := R1.rate
  go_wp2_with fail
  go_ret2
  exact ⟨rfl, B1⟩
 | true =>
  obtain ⟨e1, e2⟩ := rate_ty hf
  rw [e1, e2]
  have HF := Lib.hid hf
  have HV := Lib.hid (formB_valid hf)
  obtain ⟨T1, hT1⟩ : ∃ T, r.wh.ty = T := ⟨_, rfl⟩
  obtain ⟨T2, hT2⟩ : ∃ T, r.pr.ty = T := ⟨_, rfl⟩
  have HT1 := Lib.hid hT1
  have HT2 := Lib.hid hT2
  have ht : tyB r = (decide (T1 = 3) && decide (T2 = 2)) := by unfold tyB; rw [hT1, hT2]
  rw [ht]
  clear hf e1 e2 h hT1 hT2 ht
  have R0 : Row (w.alloc (.cells #[.int .i64 r.id, .int .i64 r.lv, .int .i64 r.kd, .int .i64 r.fr, .int .i64 r.un, .int .i64 r.ls, .int .i64 r.ms, .int .i64 r.ar, .int .i64 r.kn, .int .i64 r.kk, .int .i64 r.wh.op, .int .i64 r.wh.n, .slice r.wh.at' r.wh.ks.length r.wh.cap, .int .i64 r.pr.op, .int .i64 r.pr.n, .slice r.pr.at' r.pr.ks.length r.pr.cap] 42)) w.heap.size [.int .i64 r.id, .int .i64 r.lv, .int .i64 r.kd, .int .i64 r.fr, .int .i64 r.un, .int .i64 r.ls, .int .i64 r.ms, .int .i64 r.ar, .int .i64 r.kn, .int .i64 r.kk, .int .i64 r.wh.op, .int .i64 r.wh.n, .slice r.wh.at' r.wh.ks.length r.wh.cap, .int .i64 r.pr.op, .int .i64 r.pr.n, .slice r.pr.at' r.pr.ks.length r.pr.cap] := by (repeat' (first | (with_reducible assumption) | (with_reducible refine Row.new' _ _ _ (by first | rfl | (simp; done) | omega)) | (with_reducible refine Row.alloc ?_ _) | (with_reducible refine Row.drew ?_) | (with_reducible refine Row.drewN ?_ _) | (with_reducible refine Row.step ?_ (by with_reducible assumption))))
  have B0 : Below w.heap.size w (w.alloc (.cells #[.int .i64 r.id, .int .i64 r.lv, .int .i64 r.kd, .int .i64 r.fr, .int .i64 r.un, .int .i64 r.ls, .int .i64 r.ms, .int .i64 r.ar, .int .i64 r.kn, .int .i64 r.kk, .int .i64 r.wh.op, .int .i64 r.wh.n, .slice r.wh.at' r.wh.ks.length r.wh.cap, .int .i64 r.pr.op, .int .i64 r.pr.n, .slice r.pr.at' r.pr.ks.length r.pr.cap] 42)) := by (repeat' (first | (with_reducible first | exact Below.refl _ _ | assumption | exact Bw.out (by assumption) | refine bw_alloc ?_ _ | refine bw_step ?_ (by assumption) | refine Below.alloc ?_ ?_ _ | refine Below.drew ?_ | refine below_drewN ?_ _ | refine Below.setCell ?_ ?_ _ | refine below_step ?_ (by assumption) ?_ | exact Nat.le_refl _) | omega | (simp; omega) | (simp; done)))
  have b0s := B0.size
  obtain ⟨x0, x1, x2, x3, x4, x5, x6, x7, x8, x9, xa, xb, xc, xd, xe, xf, xl⟩ := R0.rate
  go_enter Tryz.func32, Tryz.ntmps32
  go_wp2_with fail
  refine (R_form_p r _ (HIN.out.step B0) _ HF.out).mono ?_
  rintro e w1 ⟨rfl, hb1⟩
  have R1 := R0.step hb1
  have B1 := B0.trans (hb1.mono b0s)
  have b1s := B1.size
  clear hb1 x0 x1 x2 x3 x4 x5 x6 x7 x8 x9 xa xb xc xd xe xf xl
  obtain ⟨x0, x1, x2, x3, x4, x5, x6, x7, x8, x9, xa, xb, xc, xd, xe, xf, xl⟩ := R1.rate
  go_wp2_with fail
  refine (R_type_p r.wh _ (HIN.out.1.step B1) HV.out.1 T1 HT1.out).mono ?_
  rintro e w2 ⟨rfl, hb2⟩
  have R2 := R1.step hb2
  have B2 := B1.trans (hb2.mono b1s)
  have b2s := B2.size
  clear hb2 x0 x1 x2 x3 x4 x5 x6 x7 x8 x9 xa xb xc xd xe xf xl
  obtain ⟨x0, x1, x2, x3, x4, x5, x6, x7, x8, x9, xa, xb, xc, xd, xe, xf, xl⟩ := R2.rate
  by_cases h1 : T1 = 3
  ·
   subst h1
   go_wp2_with fail
   refine (R_type_p r.pr _ (HIN.out.2.step B2) HV.out.2 T2 HT2.out).mono ?_
   rintro e w3 ⟨rfl, hb3⟩
   have R3 := R2.step hb3
   have B3 := B2.trans (hb3.mono b2s)
   have b3s := B3.size
   clear hb3 x0 x1 x2 x3 x4 x5 x6 x7 x8 x9 xa xb xc xd xe xf xl
   obtain ⟨x0, x1, x2, x3, x4, x5, x6, x7, x8, x9, xa, xb, xc, xd, xe, xf, xl⟩ := R3.rate
   by_cases h2 : T2 = 2
   ·
    subst h2
    go_wp2_with fail
    go_ret2
    exact ⟨rfl, B3⟩
   ·
    have h2' : (T2 != 2) = true := by simpa using h2
    go_wp2_with fail
    all_goals go_ret2
    all_goals exact ⟨by first | rfl | simp [h2], B3⟩
  ·
   have h1' : (T1 != 3) = true := by simpa using h1
   go_wp2_with fail
   all_goals go_ret2
   all_goals exact ⟨by first | rfl | simp [h1], B2⟩
end Go.Proofs.YtcmodmchnokmgaaGreat
