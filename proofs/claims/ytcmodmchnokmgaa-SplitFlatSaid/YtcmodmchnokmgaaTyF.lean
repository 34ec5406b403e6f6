/-
 The walks of package types: formed, Rate.
-/
import Derived.Test.YtcmodmchnokmgaaTyE
import Derived.Test.YtcmodmchnokmgaaRatY
import Derived.Deep.DeepCutAuto
namespace Go.Proofs.Ytcmodmchnokmgaa
set_option linter.unusedSimpArgs false
set_option linter.unusedVariables false
open Go.RowKit
theorem sl_new3 (W : World) (T : TypeId) (a b c : Int) : SlI (W.alloc (.cells #[.int .i64 a, .int .i64 b, .int .i64 c] T)) (some ⟨W.heap.size, 0, none⟩) 3 [a, b, c] := SlI.row (rest := []) (Row.new' W [.int .i64 a, .int .i64 b, .int .i64 c] T rfl) rfl
theorem sl_new4 (W : World) (T : TypeId) (a b c d : Int) : SlI (W.alloc (.cells #[.int .i64 a, .int .i64 b, .int .i64 c, .int .i64 d] T)) (some ⟨W.heap.size, 0, none⟩) 4 [a, b, c, d] := SlI.row (rest := []) (Row.new' W [.int .i64 a, .int .i64 b, .int .i64 c, .int .i64 d] T rfl) rfl
theorem rising3 (a b c : Int) (T : TypeId) (W : World) (p : Bool) (hp : inE b a c = p) {B : Nat} (hB : B = W.heap.size) :
  Calls Try.prog 74 #[.slice (some ⟨B, 0, none⟩) 3 3] (W.alloc (.cells #[.int .i64 a, .int .i64 b, .int .i64 c] T)) fun e w' => e = .returned (.bool p) ∧ Below W.heap.size W w' := by
 subst hB
 refine (rising_any [a, b, c] _ 3 3 _ (sl_new3 _ _ _ _ _) (by omega)).mono ?_
 rintro e w' ⟨rfl, hb⟩
 refine ⟨by rw [srt3, ← hp]; rfl, ?_⟩
 have h1 : Below W.heap.size W (W.alloc (.cells #[.int .i64 a, .int .i64 b, .int .i64 c] T)) := by (repeat' (first | (with_reducible first | exact Below.refl _ _ | assumption | exact Bw.out (by assumption) | refine bw_alloc ?_ _ | refine bw_step ?_ (by assumption) | refine Below.alloc ?_ ?_ _ | refine Below.drew ?_ | refine below_drewN ?_ _ | refine Below.setCell ?_ ?_ _ | refine below_step ?_ (by assumption) ?_ | exact Nat.le_refl _) | omega | (simp; omega) | (simp; done)))
 exact h1.trans (hb.mono h1.size)
theorem rising4 (a b c d : Int) (T : TypeId) (W : World) (p : Bool) (hp : (decide (a ≤ b) && (decide (b ≤ c) && decide (c ≤ d))) = p) {B : Nat} (hB : B = W.heap.size) :
  Calls Try.prog 74 #[.slice (some ⟨B, 0, none⟩) 4 4] (W.alloc (.cells #[.int .i64 a, .int .i64 b, .int .i64 c, .int .i64 d] T)) fun e w' => e = .returned (.bool p) ∧ Below W.heap.size W w' := by
 subst hB
 refine (rising_any [a, b, c, d] _ 4 4 _ (sl_new4 _ _ _ _ _ _) (by omega)).mono ?_
 rintro e w' ⟨rfl, hb⟩
 refine ⟨by rw [srt4, ← hp], ?_⟩
 have h1 : Below W.heap.size W (W.alloc (.cells #[.int .i64 a, .int .i64 b, .int .i64 c, .int .i64 d] T)) := by (repeat' (first | (with_reducible first | exact Below.refl _ _ | assumption | exact Bw.out (by assumption) | refine bw_alloc ?_ _ | refine bw_step ?_ (by assumption) | refine Below.alloc ?_ ?_ _ | refine Below.drew ?_ | refine below_drewN ?_ _ | refine Below.setCell ?_ ?_ _ | refine below_step ?_ (by assumption) ?_ | exact Nat.le_refl _) | omega | (simp; omega) | (simp; done)))
 exact h1.trans (hb.mono h1.size)
/-- A rate's cells in a block: its fields, under short names. -/
theorem Row.rate {w : World} {b : Nat} {r : RateV} (h : Row w b [.int .i64 r.id, .int .i64 r.lv, .int .i64 r.kd, .int .i64 r.fr, .int .i64 r.un, .int .i64 r.ls, .int .i64 r.ms, .int .i64 r.ar, .int .i64 r.kn, .int .i64 r.kk, .int .i64 r.wh.op, .int .i64 r.wh.n, .slice r.wh.at' r.wh.ks.length r.wh.cap, .int .i64 r.pr.op, .int .i64 r.pr.n, .slice r.pr.at' r.pr.ks.length r.pr.cap]) :
  w.cell? ⟨b, 0, none⟩ = some (.int .i64 r.id) ∧ w.cell? ⟨b, 1, none⟩ = some (.int .i64 r.lv) ∧ w.cell? ⟨b, 2, none⟩ = some (.int .i64 r.kd) ∧ w.cell? ⟨b, 3, none⟩ = some (.int .i64 r.fr) ∧ w.cell? ⟨b, 4, none⟩ = some (.int .i64 r.un) ∧ w.cell? ⟨b, 5, none⟩ = some (.int .i64 r.ls) ∧ w.cell? ⟨b, 6, none⟩ = some (.int .i64 r.ms) ∧ w.cell? ⟨b, 7, none⟩ = some (.int .i64 r.ar) ∧ w.cell? ⟨b, 8, none⟩ = some (.int .i64 r.kn) ∧ w.cell? ⟨b, 9, none⟩ = some (.int .i64 r.kk) ∧
  w.cell? ⟨b, 10, none⟩ = some (.int .i64 r.wh.op) ∧ w.cell? ⟨b, 11, none⟩ = some (.int .i64 r.wh.n) ∧ w.cell? ⟨b, 12, none⟩ = some (.slice r.wh.at' r.wh.ks.length r.wh.cap) ∧ w.cell? ⟨b, 13, none⟩ = some (.int .i64 r.pr.op) ∧ w.cell? ⟨b, 14, none⟩ = some (.int .i64 r.pr.n) ∧ w.cell? ⟨b, 15, none⟩ = some (.slice r.pr.at' r.pr.ks.length r.pr.cap) ∧ b < w.heap.size :=
 ⟨h.cell 0 rfl, h.cell 1 rfl, h.cell 2 rfl, h.cell 3 rfl, h.cell 4 rfl, h.cell 5 rfl, h.cell 6 rfl, h.cell 7 rfl, h.cell 8 rfl, h.cell 9 rfl, h.cell 10 rfl, h.cell 11 rfl, h.cell 12 rfl, h.cell 13 rfl, h.cell 14 rfl, h.cell 15 rfl, h.lt⟩
theorem valid_p (n d : Int) (w : World) (p : Bool) (hp : vld n d = p) : Calls Try.prog 75 #[.agg #[.int .i64 n, .int .i64 d]] w fun e w' => e = .returned (.bool p) ∧ Below w.heap.size w w' := by
 subst hp; exact valid_any n d w
theorem p_valid_p (x : Ex) (w : World) (h : x.In w) (p : Bool) (hp : validE x = p) : Calls Try.prog 40 #[.agg #[.int .i64 x.op, .int .i64 x.n, .slice x.at' x.ks.length x.cap]] w fun e w' => e = .returned (.bool p) ∧ Below w.heap.size w w' := by
 subst hp; exact p_valid x w h
set_option maxRecDepth 100000 in
set_option maxHeartbeats 6400000 in
theorem formed_any (r : RateV) (w : World) (h : r.In w) :
  Calls Try.prog 45 #[r.val] w fun e w' => e = .returned (.bool (formB r)) ∧ Below w.heap.size w w' := by
 have HIN := Lib.hid h
 have HF : Hid (formB r = ((inE r.id 1 1000000 && (inE r.lv 0 100 && (inE r.kd 1 20 && inE r.ar 1 127))) &&
  ((decide (0 ≤ r.fr) && (decide (r.fr < r.un) && decide (r.un ≤ 366))) &&
  (vld r.kn r.kk && (inE r.kn 0 r.kk &&
  ((decide (1 ≤ r.ls) && (decide (r.ls ≤ r.ms) && decide (r.ms ≤ 60))) && (validE r.wh && validE r.pr))))))) := rfl
 obtain ⟨F, hF⟩ : ∃ F, formB r = F := ⟨_, rfl⟩
 rw [hF] at HF ⊢
 obtain ⟨p1, hp⟩ : ∃ p, inE r.id 1 1000000 = p := ⟨_, rfl⟩
 have P1 := Lib.hid hp
 rw [hp] at HF
 clear hp hF h
 obtain ⟨p2, hp⟩ : ∃ p, inE r.lv 0 100 = p := ⟨_, rfl⟩
 have P2 := Lib.hid hp
 rw [hp] at HF
 clear hp
 obtain ⟨p3, hp⟩ : ∃ p, inE r.kd 1 20 = p := ⟨_, rfl⟩
 have P3 := Lib.hid hp
 rw [hp] at HF
 clear hp
 obtain ⟨p4, hp⟩ : ∃ p, inE r.ar 1 127 = p := ⟨_, rfl⟩
 have P4 := Lib.hid hp
 rw [hp] at HF
 clear hp
 obtain ⟨N, hN⟩ : ∃ N, (p1 && (p2 && (p3 && p4))) = N := ⟨_, rfl⟩
 rw [hN] at HF
 have HN := Lib.hid hN
 clear hN
 obtain ⟨q1, hp⟩ : ∃ p, (decide (0 ≤ r.fr) && (decide (r.fr ≤ r.un) && decide (r.un ≤ 366))) = p := ⟨_, rfl⟩
 have Q1 := Lib.hid hp
 clear hp
 obtain ⟨M, hM⟩ : ∃ M, (decide (0 ≤ r.fr) && (decide (r.fr < r.un) && decide (r.un ≤ 366))) = M := ⟨_, rfl⟩
 rw [hM] at HF
 have HM : Hid (M = (q1 && decide (r.fr < r.un))) := by
  show _ = _
  rw [← hM, ← Q1.out, Bool.eq_iff_iff]
  simp only [Bool.and_eq_true, decide_eq_true_eq]
  omega
 clear hM
 obtain ⟨k1, hp⟩ : ∃ p, vld r.kn r.kk = p := ⟨_, rfl⟩
 have K1 := Lib.hid hp
 rw [hp] at HF
 clear hp
 obtain ⟨k2, hp⟩ : ∃ p, inE r.kn 0 r.kk = p := ⟨_, rfl⟩
 have K2 := Lib.hid hp
 rw [hp] at HF
 clear hp
 obtain ⟨l1, hp⟩ : ∃ p, (decide (1 ≤ r.ls) && (decide (r.ls ≤ r.ms) && decide (r.ms ≤ 60))) = p := ⟨_, rfl⟩
 have L1 := Lib.hid hp
 rw [hp] at HF
 clear hp
 obtain ⟨v1, hp⟩ : ∃ p, validE r.wh = p := ⟨_, rfl⟩
 have V1 := Lib.hid hp
 rw [hp] at HF
 clear hp
 obtain ⟨v2, hp⟩ : ∃ p, validE r.pr = p := ⟨_, rfl⟩
 have V2 := Lib.hid hp
 rw [hp] at HF
 clear hp
 obtain ⟨K, hK⟩ : ∃ K, (k1 && k2) = K := ⟨_, rfl⟩
 have HK := Lib.hid hK
 have HF : Hid (F = (N && (M && (K && (l1 && (v1 && v2)))))) := by show _ = _; rw [HF.out, ← hK]; simp only [Bool.and_assoc]
 clear hK
 rw [show r.val = .agg #[.int .i64 r.id, .int .i64 r.lv, .int .i64 r.kd, .int .i64 r.fr, .int .i64 r.un, .int .i64 r.ls, .int .i64 r.ms, .int .i64 r.ar, .int .i64 r.kn, .int .i64 r.kk, .int .i64 r.wh.op, .int .i64 r.wh.n, .slice r.wh.at' r.wh.ks.length r.wh.cap, .int .i64 r.pr.op, .int .i64 r.pr.n, .slice r.pr.at' r.pr.ks.length r.pr.cap] from rfl]
 have R0 : Row (w.alloc (.cells #[.int .i64 r.id, .int .i64 r.lv, .int .i64 r.kd, .int .i64 r.fr, .int .i64 r.un, .int .i64 r.ls, .int .i64 r.ms, .int .i64 r.ar, .int .i64 r.kn, .int .i64 r.kk, .int .i64 r.wh.op, .int .i64 r.wh.n, .slice r.wh.at' r.wh.ks.length r.wh.cap, .int .i64 r.pr.op, .int .i64 r.pr.n, .slice r.pr.at' r.pr.ks.length r.pr.cap] 30)) w.heap.size [.int .i64 r.id, .int .i64 r.lv, .int .i64 r.kd, .int .i64 r.fr, .int .i64 r.un, .int .i64 r.ls, .int .i64 r.ms, .int .i64 r.ar, .int .i64 r.kn, .int .i64 r.kk, .int .i64 r.wh.op, .int .i64 r.wh.n, .slice r.wh.at' r.wh.ks.length r.wh.cap, .int .i64 r.pr.op, .int .i64 r.pr.n, .slice r.pr.at' r.pr.ks.length r.pr.cap] := by (repeat' (first | (with_reducible assumption) | (with_reducible refine Row.new' _ _ _ (by first | rfl | (simp; done) | omega)) | (with_reducible refine Row.alloc ?_ _) | (with_reducible refine Row.drew ?_) | (with_reducible refine Row.drewN ?_ _) | (with_reducible refine Row.step ?_ (by with_reducible assumption))))
 have B0 : Below w.heap.size w (w.alloc (.cells #[.int .i64 r.id, .int .i64 r.lv, .int .i64 r.kd, .int .i64 r.fr, .int .i64 r.un, .int .i64 r.ls, .int .i64 r.ms, .int .i64 r.ar, .int .i64 r.kn, .int .i64 r.kk, .int .i64 r.wh.op, .int .i64 r.wh.n, .slice r.wh.at' r.wh.ks.length r.wh.cap, .int .i64 r.pr.op, .int .i64 r.pr.n, .slice r.pr.at' r.pr.ks.length r.pr.cap] 30)) := by (repeat' (first | (with_reducible first | exact Below.refl _ _ | assumption | exact Bw.out (by assumption) | refine bw_alloc ?_ _ | refine bw_step ?_ (by assumption) | refine Below.alloc ?_ ?_ _ | refine Below.drew ?_ | refine below_drewN ?_ _ | refine Below.setCell ?_ ?_ _ | refine below_step ?_ (by assumption) ?_ | exact Nat.le_refl _) | omega | (simp; omega) | (simp; done)))
 have b0s := B0.size
 obtain ⟨x0, x1, x2, x3, x4, x5, x6, x7, x8, x9, xa, xb, xc, xd, xe, xf, xl⟩ := R0.rate
 go_enter Try.func45, Try.ntmps45
 go_upto_region 1 with fail
 go_cut [3] from 6 to 27 (fun v wx => v = .bool N ∧ Row wx w.heap.size [.int .i64 r.id, .int .i64 r.lv, .int .i64 r.kd, .int .i64 r.fr, .int .i64 r.un, .int .i64 r.ls, .int .i64 r.ms, .int .i64 r.ar, .int .i64 r.kn, .int .i64 r.kk, .int .i64 r.wh.op, .int .i64 r.wh.n, .slice r.wh.at' r.wh.ks.length r.wh.cap, .int .i64 r.pr.op, .int .i64 r.pr.n, .slice r.pr.at' r.pr.ks.length r.pr.cap] ∧ Below w.heap.size w wx)
 case first =>
  go_wp2_with fail
  refine (rising3 1 r.id 1000000 _ _ p1 P1.out (by simp)).mono ?_
  rintro e w1 ⟨rfl, hb1⟩
  have R1 := R0.step hb1
  have B1 := B0.trans (hb1.mono b0s)
  have b1s := B1.size
  clear hb1 x0 x1 x2 x3 x4 x5 x6 x7 x8 x9 xa xb xc xd xe xf xl
  obtain ⟨x0, x1, x2, x3, x4, x5, x6, x7, x8, x9, xa, xb, xc, xd, xe, xf, xl⟩ := R1.rate
  cases p1 with
  | false =>
   have hn : N = false := by rw [← HN.out]; simp
   subst hn
   go_wp2_with fail
   go_meet
   exact ⟨by first | rfl | (simp; omega), R1, B1⟩
  | true =>
   go_wp2_with fail
   refine (rising3 0 r.lv 100 _ _ p2 P2.out (by simp)).mono ?_
   rintro e w2 ⟨rfl, hb2⟩
   have R2 := R1.step hb2
   have B2 := B1.trans (hb2.mono b1s)
   have b2s := B2.size
   clear hb2 x0 x1 x2 x3 x4 x5 x6 x7 x8 x9 xa xb xc xd xe xf xl
   obtain ⟨x0, x1, x2, x3, x4, x5, x6, x7, x8, x9, xa, xb, xc, xd, xe, xf, xl⟩ := R2.rate
   cases p2 with
   | false =>
    have hn : N = false := by rw [← HN.out]; simp
    subst hn
    go_wp2_with fail
    go_meet
    exact ⟨by first | rfl | (simp; omega), R2, B2⟩
   | true =>
    go_wp2_with fail
    refine (rising3 1 r.kd 20 _ _ p3 P3.out (by simp)).mono ?_
    rintro e w3 ⟨rfl, hb3⟩
    have R3 := R2.step hb3
    have B3 := B2.trans (hb3.mono b2s)
    have b3s := B3.size
    clear hb3 x0 x1 x2 x3 x4 x5 x6 x7 x8 x9 xa xb xc xd xe xf xl
    obtain ⟨x0, x1, x2, x3, x4, x5, x6, x7, x8, x9, xa, xb, xc, xd, xe, xf, xl⟩ := R3.rate
    cases p3 with
    | false =>
     have hn : N = false := by rw [← HN.out]; simp
     subst hn
     go_wp2_with fail
     go_meet
     exact ⟨by first | rfl | (simp; omega), R3, B3⟩
    | true =>
     go_wp2_with fail
     refine (rising3 1 r.ar 127 _ _ p4 P4.out (by simp)).mono ?_
     rintro e w4 ⟨rfl, hb4⟩
     have R4 := R3.step hb4
     have B4 := B3.trans (hb4.mono b3s)
     have b4s := B4.size
     clear hb4 x0 x1 x2 x3 x4 x5 x6 x7 x8 x9 xa xb xc xd xe xf xl
     obtain ⟨x0, x1, x2, x3, x4, x5, x6, x7, x8, x9, xa, xb, xc, xd, xe, xf, xl⟩ := R4.rate
     have hn : N = p4 := by rw [← HN.out]; simp
     subst hn
     go_wp2_with fail
     go_meet
     exact ⟨by first | rfl | (simp; omega), R4, B4⟩
 case' rest =>
  obtain ⟨rfl, R5, B5⟩ := hcut
  obtain ⟨w5, hw5⟩ : ∃ wd, wd = wc := ⟨_, rfl⟩
  subst hw5
  have b5s := B5.size
  obtain ⟨x0, x1, x2, x3, x4, x5, x6, x7, x8, x9, xa, xb, xc, xd, xe, xf, xl⟩ := R5.rate
  go_upto_region 2 with fail
  go_cut [4] from 28 to 44 (fun v wx => v = .bool M ∧ Row wx w.heap.size [.int .i64 r.id, .int .i64 r.lv, .int .i64 r.kd, .int .i64 r.fr, .int .i64 r.un, .int .i64 r.ls, .int .i64 r.ms, .int .i64 r.ar, .int .i64 r.kn, .int .i64 r.kk, .int .i64 r.wh.op, .int .i64 r.wh.n, .slice r.wh.at' r.wh.ks.length r.wh.cap, .int .i64 r.pr.op, .int .i64 r.pr.n, .slice r.pr.at' r.pr.ks.length r.pr.cap] ∧ Below w.heap.size w wx)
  case first =>
   go_wp2_with fail
   refine (rising4 0 r.fr r.un 366 _ _ q1 Q1.out (by simp)).mono ?_
   rintro e w6 ⟨rfl, hb6⟩
   have R6 := R5.step hb6
   have B6 := B5.trans (hb6.mono b5s)
   have b6s := B6.size
   clear hb6 x0 x1 x2 x3 x4 x5 x6 x7 x8 x9 xa xb xc xd xe xf xl
   obtain ⟨x0, x1, x2, x3, x4, x5, x6, x7, x8, x9, xa, xb, xc, xd, xe, xf, xl⟩ := R6.rate
   cases q1 with
   | false =>
    have hn : M = false := by rw [HM.out]; rfl
    subst hn
    go_wp2_with fail
    go_meet
    exact ⟨by first | rfl | (simp; omega), R6, B6⟩
   | true =>
    by_cases hfu : r.fr < r.un
    ·
     have hn : M = true := by rw [HM.out]; simp [hfu]
     subst hn
     go_wp2_with fail
     go_meet
     exact ⟨by first | rfl | (simp; omega), R6, B6⟩
    ·
     have hn : M = false := by rw [HM.out]; simp [hfu]
     subst hn
     go_wp2_with fail
     go_meet
     exact ⟨by first | rfl | (simp; omega), R6, B6⟩
  case' rest =>
   obtain ⟨rfl, R7, B7⟩ := hcut
   obtain ⟨w7, hw7⟩ : ∃ wd, wd = wc := ⟨_, rfl⟩
   subst hw7
   have b7s := B7.size
   obtain ⟨x0, x1, x2, x3, x4, x5, x6, x7, x8, x9, xa, xb, xc, xd, xe, xf, xl⟩ := R7.rate
   go_upto_region 3 with fail
   go_cut [5] from 45 to 57 (fun v wx => v = .bool K ∧ Row wx w.heap.size [.int .i64 r.id, .int .i64 r.lv, .int .i64 r.kd, .int .i64 r.fr, .int .i64 r.un, .int .i64 r.ls, .int .i64 r.ms, .int .i64 r.ar, .int .i64 r.kn, .int .i64 r.kk, .int .i64 r.wh.op, .int .i64 r.wh.n, .slice r.wh.at' r.wh.ks.length r.wh.cap, .int .i64 r.pr.op, .int .i64 r.pr.n, .slice r.pr.at' r.pr.ks.length r.pr.cap] ∧ Below w.heap.size w wx)
   case first =>
    go_wp2_with fail
    refine (valid_p r.kn r.kk _ k1 K1.out).mono ?_
    rintro e w8 ⟨rfl, hb8⟩
    have R8 := R7.step hb8
    have B8 := B7.trans (hb8.mono b7s)
    have b8s := B8.size
    clear hb8 x0 x1 x2 x3 x4 x5 x6 x7 x8 x9 xa xb xc xd xe xf xl
    obtain ⟨x0, x1, x2, x3, x4, x5, x6, x7, x8, x9, xa, xb, xc, xd, xe, xf, xl⟩ := R8.rate
    cases k1 with
    | false =>
     have hn : K = false := by rw [← HK.out]; simp
     subst hn
     go_wp2_with fail
     go_meet
     exact ⟨by first | rfl | (simp; omega), R8, B8⟩
    | true =>
     go_wp2_with fail
     refine (rising3 0 r.kn r.kk _ _ k2 K2.out (by simp)).mono ?_
     rintro e w9 ⟨rfl, hb9⟩
     have R9 := R8.step hb9
     have B9 := B8.trans (hb9.mono b8s)
     have b9s := B9.size
     clear hb9 x0 x1 x2 x3 x4 x5 x6 x7 x8 x9 xa xb xc xd xe xf xl
     obtain ⟨x0, x1, x2, x3, x4, x5, x6, x7, x8, x9, xa, xb, xc, xd, xe, xf, xl⟩ := R9.rate
     have hn : K = k2 := by rw [← HK.out]; simp
     subst hn
     go_wp2_with fail
     go_meet
     exact ⟨by first | rfl | (simp; omega), R9, B9⟩
   case' rest =>
    obtain ⟨rfl, R10, B10⟩ := hcut
    obtain ⟨w10, hw10⟩ : ∃ wd, wd = wc := ⟨_, rfl⟩
    subst hw10
    have b10s := B10.size
    obtain ⟨x0, x1, x2, x3, x4, x5, x6, x7, x8, x9, xa, xb, xc, xd, xe, xf, xl⟩ := R10.rate
    cases N with
    | false =>
     have hn : F = false := by rw [HF.out]; simp
     subst hn
     go_wp2_with fail
     go_ret
     exact ⟨rfl, B10⟩
    | true =>
     cases M with
     | false =>
      have hn : F = false := by rw [HF.out]; simp
      subst hn
      go_wp2_with fail
      go_ret
      exact ⟨rfl, B10⟩
     | true =>
      cases K with
      | false =>
       have hn : F = false := by rw [HF.out]; simp
       subst hn
       go_wp2_with fail
       go_ret
       exact ⟨rfl, B10⟩
      | true =>
       go_wp2_with fail
       refine (rising4 1 r.ls r.ms 60 _ _ l1 L1.out (by simp)).mono ?_
       rintro e w11 ⟨rfl, hb11⟩
       have R11 := R10.step hb11
       have B11 := B10.trans (hb11.mono b10s)
       have b11s := B11.size
       clear hb11 x0 x1 x2 x3 x4 x5 x6 x7 x8 x9 xa xb xc xd xe xf xl
       obtain ⟨x0, x1, x2, x3, x4, x5, x6, x7, x8, x9, xa, xb, xc, xd, xe, xf, xl⟩ := R11.rate
       cases l1 with
       | false =>
        have hn : F = false := by rw [HF.out]; simp
        subst hn
        go_wp2_with fail
        go_ret
        exact ⟨rfl, B11⟩
       | true =>
        go_wp2_with fail
        refine (p_valid_p r.wh _ (HIN.out.1.step B11) v1 V1.out).mono ?_
        rintro e w12 ⟨rfl, hb12⟩
        have R12 := R11.step hb12
        have B12 := B11.trans (hb12.mono b11s)
        have b12s := B12.size
        clear hb12 x0 x1 x2 x3 x4 x5 x6 x7 x8 x9 xa xb xc xd xe xf xl
        obtain ⟨x0, x1, x2, x3, x4, x5, x6, x7, x8, x9, xa, xb, xc, xd, xe, xf, xl⟩ := R12.rate
        cases v1 with
        | false =>
         have hn : F = false := by rw [HF.out]; simp
         subst hn
         go_wp2_with fail
         go_ret
         exact ⟨rfl, B12⟩
        | true =>
         go_wp2_with fail
         refine (p_valid_p r.pr _ (HIN.out.2.step B12) v2 V2.out).mono ?_
         rintro e w13 ⟨rfl, hb13⟩
         have R13 := R12.step hb13
         have B13 := B12.trans (hb13.mono b12s)
         have b13s := B13.size
         clear hb13 x0 x1 x2 x3 x4 x5 x6 x7 x8 x9 xa xb xc xd xe xf xl
         obtain ⟨x0, x1, x2, x3, x4, x5, x6, x7, x8, x9, xa, xb, xc, xd, xe, xf, xl⟩ := R13.rate
         have hn : F = v2 := by rw [HF.out]; simp
         subst hn
         go_wp2_with fail
         go_ret
         exact ⟨rfl, B13⟩
theorem infer_p (x : Ex) (w : World) (h : x.In w) (V E : Int) (hV : inferV x = V) (hE : inferE x = E) :
  Calls Try.prog 16 #[.agg #[.int .i64 x.op, .int .i64 x.n, .slice x.at' x.ks.length x.cap]] w fun e w' => e = .returned (.tuple #[.int .i64 V, .int .i64 E]) ∧ Below w.heap.size w w' := by
 subst hV hE; exact infer_any x w h
theorem formed_p (r : RateV) (w : World) (h : r.In w) (p : Bool) (hp : formB r = p) :
  Calls Try.prog 45 #[.agg #[.int .i64 r.id, .int .i64 r.lv, .int .i64 r.kd, .int .i64 r.fr, .int .i64 r.un, .int .i64 r.ls, .int .i64 r.ms, .int .i64 r.ar, .int .i64 r.kn, .int .i64 r.kk, .int .i64 r.wh.op, .int .i64 r.wh.n, .slice r.wh.at' r.wh.ks.length r.wh.cap, .int .i64 r.pr.op, .int .i64 r.pr.n, .slice r.pr.at' r.pr.ks.length r.pr.cap]] w fun e w' => e = .returned (.bool p) ∧ Below w.heap.size w w' := by
 subst hp; exact formed_any r w h
theorem rate_no {r : RateV} (h : formB r = false) : rateB r = false ∧ rateE r = 1 := by unfold rateB rateE; rw [h]; exact ⟨rfl, rfl⟩
theorem rate_ty {r : RateV} (h : formB r = true) : rateB r = tyB r ∧ rateE r = if tyB r = true then 0 else 20 := by unfold rateB rateE; rw [h]; exact ⟨rfl, rfl⟩
theorem inferV_ty {x : Ex} (h : validE x = true) : inferV x = x.ty := by unfold inferV; rw [if_pos h]
set_option maxRecDepth 100000 in
set_option maxHeartbeats 3200000 in
theorem rate_any (r : RateV) (w : World) (h : r.In w) :
  Calls Try.prog 18 #[r.val] w fun e w' => e = .returned (.tuple #[.bool (rateB r), .int .i64 (rateE r)]) ∧ Below w.heap.size w w' := by
 have HIN := Lib.hid h
 rw [show r.val = .agg #[.int .i64 r.id, .int .i64 r.lv, .int .i64 r.kd, .int .i64 r.fr, .int .i64 r.un, .int .i64 r.ls, .int .i64 r.ms, .int .i64 r.ar, .int .i64 r.kn, .int .i64 r.kk, .int .i64 r.wh.op, .int .i64 r.wh.n, .slice r.wh.at' r.wh.ks.length r.wh.cap, .int .i64 r.pr.op, .int .i64 r.pr.n, .slice r.pr.at' r.pr.ks.length r.pr.cap] from rfl]
 cases hf : formB r with
 | false =>
  obtain ⟨e1, e2⟩ := rate_no hf
  rw [e1, e2]
  have HF := Lib.hid hf
  clear hf e1 e2 h
  have R0 : Row (w.alloc (.cells #[.int .i64 r.id, .int .i64 r.lv, .int .i64 r.kd, .int .i64 r.fr, .int .i64 r.un, .int .i64 r.ls, .int .i64 r.ms, .int .i64 r.ar, .int .i64 r.kn, .int .i64 r.kk, .int .i64 r.wh.op, .int .i64 r.wh.n, .slice r.wh.at' r.wh.ks.length r.wh.cap, .int .i64 r.pr.op, .int .i64 r.pr.n, .slice r.pr.at' r.pr.ks.length r.pr.cap] 30)) w.heap.size [.int .i64 r.id, .int .i64 r.lv, .int .i64 r.kd, .int .i64 r.fr, .int .i64 r.un, .int .i64 r.ls, .int .i64 r.ms, .int .i64 r.ar, .int .i64 r.kn, .int .i64 r.kk, .int .i64 r.wh.op, .int .i64 r.wh.n, .slice r.wh.at' r.wh.ks.length r.wh.cap, .int .i64 r.pr.op, .int .i64 r.pr.n, .slice r.pr.at' r.pr.ks.length r.pr.cap] := by (repeat' (first | (with_reducible assumption) | (with_reducible refine Row.new' _ _ _ (by first | rfl | (simp; done) | omega)) | (with_reducible refine Row.alloc ?_ _) | (with_reducible refine Row.drew ?_) | (with_reducible refine Row.drewN ?_ _) | (with_reducible refine Row.step ?_ (by with_reducible assumption))))
  have B0 : Below w.heap.size w (w.alloc (.cells #[.int .i64 r.id, .int .i64 r.lv, .int .i64 r.kd, .int .i64 r.fr, .int .i64 r.un, .int .i64 r.ls, .int .i64 r.ms, .int .i64 r.ar, .int .i64 r.kn, .int .i64 r.kk, .int .i64 r.wh.op, .int .i64 r.wh.n, .slice r.wh.at' r.wh.ks.length r.wh.cap, .int .i64 r.pr.op, .int .i64 r.pr.n, .slice r.pr.at' r.pr.ks.length r.pr.cap] 30)) := by (repeat' (first | (with_reducible first | exact Below.refl _ _ | assumption | exact Bw.out (by assumption) | refine bw_alloc ?_ _ | refine bw_step ?_ (by assumption) | refine Below.alloc ?_ ?_ _ | refine Below.drew ?_ | refine below_drewN ?_ _ | refine Below.setCell ?_ ?_ _ | refine below_step ?_ (by assumption) ?_ | exact Nat.le_refl _) | omega | (simp; omega) | (simp; done)))
  have b0s := B0.size
  obtain ⟨x0, x1, x2, x3, x4, x5, x6, x7, x8, x9, xa, xb, xc, xd, xe, xf, xl⟩ := R0.rate
  go_enter Try.func18, Try.ntmps18
  go_wp2_with fail
  refine (formed_p r _ (HIN.out.step B0) _ HF.out).mono ?_
  rintro e w1 ⟨rfl, hb1⟩
  have R1 := R0.step hb1
  have B1 := B0.trans (hb1.mono b0s)
  have b1s := B1.size
  clear hb1 x0 x1 x2 x3 x4 x5 x6 x7 x8 x9 xa xb xc xd xe xf xl
  obtain ⟨x0, x1, x2, x3, x4, x5, x6, x7, x8, x9, xa, xb, xc, xd, xe, xf, xl⟩ := R1.rate
  go_wp2_with fail
  go_ret2
  exact ⟨rfl, B1⟩
 | true =>
  obtain ⟨e1, e2⟩ := rate_ty hf
  rw [e1, e2]
  have HF := Lib.hid hf
  obtain ⟨v1, v2⟩ := formB_valid hf
  obtain ⟨T1, hT1⟩ : ∃ T, r.wh.ty = T := ⟨_, rfl⟩
  obtain ⟨T2, hT2⟩ : ∃ T, r.pr.ty = T := ⟨_, rfl⟩
  have HV1 := Lib.hid ((inferV_ty v1).trans hT1)
  have HV2 := Lib.hid ((inferV_ty v2).trans hT2)
  have ht : tyB r = (decide (T1 = 3) && decide (T2 = 2)) := by unfold tyB; rw [hT1, hT2]
  rw [ht]
  clear hf e1 e2 h v1 v2 hT1 hT2 ht
  have R0 : Row (w.alloc (.cells #[.int .i64 r.id, .int .i64 r.lv, .int .i64 r.kd, .int .i64 r.fr, .int .i64 r.un, .int .i64 r.ls, .int .i64 r.ms, .int .i64 r.ar, .int .i64 r.kn, .int .i64 r.kk, .int .i64 r.wh.op, .int .i64 r.wh.n, .slice r.wh.at' r.wh.ks.length r.wh.cap, .int .i64 r.pr.op, .int .i64 r.pr.n, .slice r.pr.at' r.pr.ks.length r.pr.cap] 30)) w.heap.size [.int .i64 r.id, .int .i64 r.lv, .int .i64 r.kd, .int .i64 r.fr, .int .i64 r.un, .int .i64 r.ls, .int .i64 r.ms, .int .i64 r.ar, .int .i64 r.kn, .int .i64 r.kk, .int .i64 r.wh.op, .int .i64 r.wh.n, .slice r.wh.at' r.wh.ks.length r.wh.cap, .int .i64 r.pr.op, .int .i64 r.pr.n, .slice r.pr.at' r.pr.ks.length r.pr.cap] := by (repeat' (first | (with_reducible assumption) | (with_reducible refine Row.new' _ _ _ (by first | rfl | (simp; done) | omega)) | (with_reducible refine Row.alloc ?_ _) | (with_reducible refine Row.drew ?_) | (with_reducible refine Row.drewN ?_ _) | (with_reducible refine Row.step ?_ (by with_reducible assumption))))
  have B0 : Below w.heap.size w (w.alloc (.cells #[.int .i64 r.id, .int .i64 r.lv, .int .i64 r.kd, .int .i64 r.fr, .int .i64 r.un, .int .i64 r.ls, .int .i64 r.ms, .int .i64 r.ar, .int .i64 r.kn, .int .i64 r.kk, .int .i64 r.wh.op, .int .i64 r.wh.n, .slice r.wh.at' r.wh.ks.length r.wh.cap, .int .i64 r.pr.op, .int .i64 r.pr.n, .slice r.pr.at' r.pr.ks.length r.pr.cap] 30)) := by (repeat' (first | (with_reducible first | exact Below.refl _ _ | assumption | exact Bw.out (by assumption) | refine bw_alloc ?_ _ | refine bw_step ?_ (by assumption) | refine Below.alloc ?_ ?_ _ | refine Below.drew ?_ | refine below_drewN ?_ _ | refine Below.setCell ?_ ?_ _ | refine below_step ?_ (by assumption) ?_ | exact Nat.le_refl _) | omega | (simp; omega) | (simp; done)))
  have b0s := B0.size
  obtain ⟨x0, x1, x2, x3, x4, x5, x6, x7, x8, x9, xa, xb, xc, xd, xe, xf, xl⟩ := R0.rate
  go_enter Try.func18, Try.ntmps18
  go_wp2_with fail
  refine (formed_p r _ (HIN.out.step B0) _ HF.out).mono ?_
  rintro e w1 ⟨rfl, hb1⟩
  have R1 := R0.step hb1
  have B1 := B0.trans (hb1.mono b0s)
  have b1s := B1.size
  clear hb1 x0 x1 x2 x3 x4 x5 x6 x7 x8 x9 xa xb xc xd xe xf xl
  obtain ⟨x0, x1, x2, x3, x4, x5, x6, x7, x8, x9, xa, xb, xc, xd, xe, xf, xl⟩ := R1.rate
  go_wp2_with fail
  refine (infer_p r.wh _ (HIN.out.1.step B1) T1 _ HV1.out rfl).mono ?_
  rintro e w2 ⟨rfl, hb2⟩
  have R2 := R1.step hb2
  have B2 := B1.trans (hb2.mono b1s)
  have b2s := B2.size
  clear hb2 x0 x1 x2 x3 x4 x5 x6 x7 x8 x9 xa xb xc xd xe xf xl
  obtain ⟨x0, x1, x2, x3, x4, x5, x6, x7, x8, x9, xa, xb, xc, xd, xe, xf, xl⟩ := R2.rate
  go_wp2_with fail
  refine (infer_p r.pr _ (HIN.out.2.step B2) T2 _ HV2.out rfl).mono ?_
  rintro e w3 ⟨rfl, hb3⟩
  have R3 := R2.step hb3
  have B3 := B2.trans (hb3.mono b2s)
  have b3s := B3.size
  clear hb3 x0 x1 x2 x3 x4 x5 x6 x7 x8 x9 xa xb xc xd xe xf xl
  obtain ⟨x0, x1, x2, x3, x4, x5, x6, x7, x8, x9, xa, xb, xc, xd, xe, xf, xl⟩ := R3.rate
  by_cases h1 : T1 = 3
  ·
   subst h1
   by_cases h2 : T2 = 2
   ·
    subst h2
    go_wp2_with fail
    go_ret2
    exact ⟨rfl, B3⟩
   ·
    have h2' : (T2 != 2) = true := by simpa using h2
    go_wp2_with fail
    all_goals go_ret2
    all_goals exact ⟨by first | rfl | simp [h2], B3⟩
  ·
   have h1' : (T1 != 3) = true := by simpa using h1
   go_wp2_with fail
   all_goals go_ret2
   all_goals exact ⟨by first | rfl | simp [h1], B3⟩
end Go.Proofs.Ytcmodmchnokmgaa
