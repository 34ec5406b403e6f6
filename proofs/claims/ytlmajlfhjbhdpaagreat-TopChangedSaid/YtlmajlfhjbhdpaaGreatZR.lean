/-
 The walks of package stays: suits, Fits.
-/
import Derived.Test.YtlmajlfhjbhdpaaGreatZO
namespace Go.Proofs.YtlmajlfhjbhdpaaGreat
set_option linter.unusedSimpArgs false
set_option linter.unusedVariables false
open Go.RowKit Go.Shelf
set_option maxRecDepth 100000 in
set_option maxHeartbeats 3200000 in
theorem suits_p (s : StayV) (r : RoomV) (p : Bool) (hp : suitB s r = p) (w : World) (hg : s.Good) (hin : r.In w) (hv : formedR r = true) :
  Calls Tryz.prog 24 #[.agg #[.int .i64 s.id, .int .i64 s.kd, .int .i64 s.fr, .int .i64 s.un, .int .i64 s.ps, .int .i64 s.rm, .int .i64 s.wt, .bool s.ac, .bool s.inn], .agg #[.int .i64 r.id, .int .i64 r.ho, .int .i64 r.kd, .int .i64 r.jn, .bool r.ac, .slice r.ba r.bl.length r.bc]] w fun e w' => e = .returned (.bool p) ∧ Below w.heap.size w w' := by
 obtain ⟨id, kd, fr, un, ps, rm, wt, ac, inn⟩ := s
 obtain ⟨⟨g1, g2, g3, _⟩, _, _, _, _, g9, _⟩ := hg
 simp only at g1 g2 g3 g9 ⊢
 subst g9
 obtain ⟨q, hq⟩ : ∃ q, freeB r.bl fr un = q := ⟨_, rfl⟩
 have HF := fun W h => Free_p r fr un q hq W h hv g1 g2 g3
 have hs : suitB ⟨id, kd, fr, un, ps, rm, 0, ac, inn⟩ r = (q && ((kd == r.kd) && ((r.ac || !ac) && (!inn || (rm == r.id))))) := by
  unfold suitB
  simp only [hq]
  congr 2
 rw [hs] at hp
 have HP := Lib.hid hp
 clear hs hq hv hp
 have HI := Lib.hid hin
 clear hin
 obtain ⟨rid, rho, rkd, rjn, rac, rba, rbc, rbl⟩ := r
 simp only at HF HI HP ⊢
 obtain ⟨n, hn⟩ : ∃ n, rbl.length = n := ⟨_, rfl⟩
 have HI2 : Hid (∀ W, Below w.heap.size w W → RoomV.In W ⟨rid, rho, rkd, rjn, rac, rba, rbc, rbl⟩) := fun W hb => HI.out.step hb
 have HF2 : Hid (∀ W, Below w.heap.size w W → Calls Tryz.prog 46 #[.agg #[.int .i64 rid, .int .i64 rho, .int .i64 rkd, .int .i64 rjn, .bool rac, .slice rba n rbc], .agg #[.int .i64 fr, .int .i64 un]] W fun e w' => e = .returned (.tuple #[.bool q, .int .i64 0]) ∧ Below W.heap.size W w') := fun W hb => by
  have h := HF W (HI2.out W hb)
  rw [hn] at h
  exact h
 rw [hn]
 clear HF HI HI2 hn
 go_enter Tryz.func24, Tryz.ntmps24
 go_wp2_with fail
 refine (HF2.out _ (by (repeat' (first | (with_reducible first | exact Below.refl _ _ | assumption | exact Bw.out (by assumption) | refine bw_alloc ?_ _ | refine bw_step ?_ (by assumption) | refine Below.alloc ?_ ?_ _ | refine Below.drew ?_ | refine below_drewN ?_ _ | refine Below.setCell ?_ ?_ _ | refine below_step ?_ (by assumption) ?_ | exact Nat.le_refl _) | omega | (simp; omega) | (simp; done))))).mono ?_
 rintro e w1 ⟨rfl, hb1⟩
 have R_s_1 : Row w1 (w.heap.size) [.int .i64 id, .int .i64 kd, .int .i64 fr, .int .i64 un, .int .i64 ps, .int .i64 rm, .int .i64 0, .bool ac, .bool inn] := by (repeat' (first | (with_reducible assumption) | (with_reducible refine Row.new' _ _ _ (by first | rfl | (simp; done) | omega)) | (with_reducible first | refine Row.alloc ?_ _ | refine Row.drew ?_ | refine Row.step ?_ (by assumption) | refine Row.drewN ?_ _) | (with_reducible refine Row.set2' ?_ _ _; first | exact ⟨_, _, by assumption⟩ | exact ⟨_, _, Row.alloc (by assumption) _⟩) | (with_reducible refine Row.other ?_ (by first | omega | (simp; omega)) _)))
 have c_s_0_1 := R_s_1.cell 0 rfl
 have c_s_1_1 := R_s_1.cell 1 rfl
 have c_s_2_1 := R_s_1.cell 2 rfl
 have c_s_3_1 := R_s_1.cell 3 rfl
 have c_s_4_1 := R_s_1.cell 4 rfl
 have c_s_5_1 := R_s_1.cell 5 rfl
 have c_s_6_1 := R_s_1.cell 6 rfl
 have c_s_7_1 := R_s_1.cell 7 rfl
 have c_s_8_1 := R_s_1.cell 8 rfl
 have l_s_1 := R_s_1.lt
 have R_r_1 : Row w1 (w.heap.size + 1) [.int .i64 rid, .int .i64 rho, .int .i64 rkd, .int .i64 rjn, .bool rac, .slice rba n rbc] := by (repeat' (first | (with_reducible assumption) | (with_reducible refine Row.new' _ _ _ (by first | rfl | (simp; done) | omega)) | (with_reducible first | refine Row.alloc ?_ _ | refine Row.drew ?_ | refine Row.step ?_ (by assumption) | refine Row.drewN ?_ _) | (with_reducible refine Row.set2' ?_ _ _; first | exact ⟨_, _, by assumption⟩ | exact ⟨_, _, Row.alloc (by assumption) _⟩) | (with_reducible refine Row.other ?_ (by first | omega | (simp; omega)) _)))
 have c_r_0_1 := R_r_1.cell 0 rfl
 have c_r_1_1 := R_r_1.cell 1 rfl
 have c_r_2_1 := R_r_1.cell 2 rfl
 have c_r_3_1 := R_r_1.cell 3 rfl
 have c_r_4_1 := R_r_1.cell 4 rfl
 have c_r_5_1 := R_r_1.cell 5 rfl
 have l_r_1 := R_r_1.lt
 have HB1 : Below w.heap.size w w1 := by (repeat' (first | (with_reducible first | exact Below.refl _ _ | assumption | exact Bw.out (by assumption) | refine bw_alloc ?_ _ | refine bw_step ?_ (by assumption) | refine Below.alloc ?_ ?_ _ | refine Below.drew ?_ | refine below_drewN ?_ _ | refine Below.setCell ?_ ?_ _ | refine below_step ?_ (by assumption) ?_ | exact Nat.le_refl _) | omega | (simp; omega) | (simp; done)))
 cases q with
 | false =>
  go_wp2_with fail
  go_ret
  exact ⟨congrArg (fun b => Ending.returned (.bool b)) (by rw [← HP.out]; simp), by (repeat' (first | (with_reducible first | exact Below.refl _ _ | assumption | exact Bw.out (by assumption) | refine bw_alloc ?_ _ | refine bw_step ?_ (by assumption) | refine Below.alloc ?_ ?_ _ | refine Below.drew ?_ | refine below_drewN ?_ _ | refine Below.setCell ?_ ?_ _ | refine below_step ?_ (by assumption) ?_ | exact Nat.le_refl _) | omega | (simp; omega) | (simp; done)))⟩
 | true =>
  cases hk : (kd == rkd) with
  | false =>
   have hk' : (kd != rkd) = true := by simpa using hk
   go_wp2_with fail
   go_ret
   exact ⟨congrArg (fun b => Ending.returned (.bool b)) (by rw [← HP.out]; simp [hk]), by (repeat' (first | (with_reducible first | exact Below.refl _ _ | assumption | exact Bw.out (by assumption) | refine bw_alloc ?_ _ | refine bw_step ?_ (by assumption) | refine Below.alloc ?_ ?_ _ | refine Below.drew ?_ | refine below_drewN ?_ _ | refine Below.setCell ?_ ?_ _ | refine below_step ?_ (by assumption) ?_ | exact Nat.le_refl _) | omega | (simp; omega) | (simp; done)))⟩
  | true =>
   have hk' : (kd != rkd) = false := by simpa using hk
   cases rac with
   | true =>
    cases hj : (rjn != 0) with
    | true =>
     cases inn with
     | false =>
      go_wp2_with fail
      go_ret
      exact ⟨congrArg (fun b => Ending.returned (.bool b)) (by rw [← HP.out]; simp [hk]), by (repeat' (first | (with_reducible first | exact Below.refl _ _ | assumption | exact Bw.out (by assumption) | refine bw_alloc ?_ _ | refine bw_step ?_ (by assumption) | refine Below.alloc ?_ ?_ _ | refine Below.drew ?_ | refine below_drewN ?_ _ | refine Below.setCell ?_ ?_ _ | refine below_step ?_ (by assumption) ?_ | exact Nat.le_refl _) | omega | (simp; omega) | (simp; done)))⟩
     | true =>
      go_wp2_with fail
      go_ret
      exact ⟨congrArg (fun b => Ending.returned (.bool b)) (by rw [← HP.out]; simp [hk]), by (repeat' (first | (with_reducible first | exact Below.refl _ _ | assumption | exact Bw.out (by assumption) | refine bw_alloc ?_ _ | refine bw_step ?_ (by assumption) | refine Below.alloc ?_ ?_ _ | refine Below.drew ?_ | refine below_drewN ?_ _ | refine Below.setCell ?_ ?_ _ | refine below_step ?_ (by assumption) ?_ | exact Nat.le_refl _) | omega | (simp; omega) | (simp; done)))⟩
    | false =>
     cases inn with
     | false =>
      go_wp2_with fail
      go_ret
      exact ⟨congrArg (fun b => Ending.returned (.bool b)) (by rw [← HP.out]; simp [hk]), by (repeat' (first | (with_reducible first | exact Below.refl _ _ | assumption | exact Bw.out (by assumption) | refine bw_alloc ?_ _ | refine bw_step ?_ (by assumption) | refine Below.alloc ?_ ?_ _ | refine Below.drew ?_ | refine below_drewN ?_ _ | refine Below.setCell ?_ ?_ _ | refine below_step ?_ (by assumption) ?_ | exact Nat.le_refl _) | omega | (simp; omega) | (simp; done)))⟩
     | true =>
      go_wp2_with fail
      go_ret
      exact ⟨congrArg (fun b => Ending.returned (.bool b)) (by rw [← HP.out]; simp [hk]), by (repeat' (first | (with_reducible first | exact Below.refl _ _ | assumption | exact Bw.out (by assumption) | refine bw_alloc ?_ _ | refine bw_step ?_ (by assumption) | refine Below.alloc ?_ ?_ _ | refine Below.drew ?_ | refine below_drewN ?_ _ | refine Below.setCell ?_ ?_ _ | refine below_step ?_ (by assumption) ?_ | exact Nat.le_refl _) | omega | (simp; omega) | (simp; done)))⟩
   | false =>
    cases ac with
    | true =>
     go_wp2_with fail
     go_ret
     exact ⟨congrArg (fun b => Ending.returned (.bool b)) (by rw [← HP.out]; simp [hk]), by (repeat' (first | (with_reducible first | exact Below.refl _ _ | assumption | exact Bw.out (by assumption) | refine bw_alloc ?_ _ | refine bw_step ?_ (by assumption) | refine Below.alloc ?_ ?_ _ | refine Below.drew ?_ | refine below_drewN ?_ _ | refine Below.setCell ?_ ?_ _ | refine below_step ?_ (by assumption) ?_ | exact Nat.le_refl _) | omega | (simp; omega) | (simp; done)))⟩
    | false =>
     cases hj : (rjn != 0) with
     | true =>
      cases inn with
      | false =>
       go_wp2_with fail
       go_ret
       exact ⟨congrArg (fun b => Ending.returned (.bool b)) (by rw [← HP.out]; simp [hk]), by (repeat' (first | (with_reducible first | exact Below.refl _ _ | assumption | exact Bw.out (by assumption) | refine bw_alloc ?_ _ | refine bw_step ?_ (by assumption) | refine Below.alloc ?_ ?_ _ | refine Below.drew ?_ | refine below_drewN ?_ _ | refine Below.setCell ?_ ?_ _ | refine below_step ?_ (by assumption) ?_ | exact Nat.le_refl _) | omega | (simp; omega) | (simp; done)))⟩
      | true =>
       go_wp2_with fail
       go_ret
       exact ⟨congrArg (fun b => Ending.returned (.bool b)) (by rw [← HP.out]; simp [hk]), by (repeat' (first | (with_reducible first | exact Below.refl _ _ | assumption | exact Bw.out (by assumption) | refine bw_alloc ?_ _ | refine bw_step ?_ (by assumption) | refine Below.alloc ?_ ?_ _ | refine Below.drew ?_ | refine below_drewN ?_ _ | refine Below.setCell ?_ ?_ _ | refine below_step ?_ (by assumption) ?_ | exact Nat.le_refl _) | omega | (simp; omega) | (simp; done)))⟩
     | false =>
      cases inn with
      | false =>
       go_wp2_with fail
       go_ret
       exact ⟨congrArg (fun b => Ending.returned (.bool b)) (by rw [← HP.out]; simp [hk]), by (repeat' (first | (with_reducible first | exact Below.refl _ _ | assumption | exact Bw.out (by assumption) | refine bw_alloc ?_ _ | refine bw_step ?_ (by assumption) | refine Below.alloc ?_ ?_ _ | refine Below.drew ?_ | refine below_drewN ?_ _ | refine Below.setCell ?_ ?_ _ | refine below_step ?_ (by assumption) ?_ | exact Nat.le_refl _) | omega | (simp; omega) | (simp; done)))⟩
      | true =>
       go_wp2_with fail
       go_ret
       exact ⟨congrArg (fun b => Ending.returned (.bool b)) (by rw [← HP.out]; simp [hk]), by (repeat' (first | (with_reducible first | exact Below.refl _ _ | assumption | exact Bw.out (by assumption) | refine bw_alloc ?_ _ | refine bw_step ?_ (by assumption) | refine Below.alloc ?_ ?_ _ | refine Below.drew ?_ | refine below_drewN ?_ _ | refine Below.setCell ?_ ?_ _ | refine below_step ?_ (by assumption) ?_ | exact Nat.le_refl _) | omega | (simp; omega) | (simp; done)))⟩
theorem unjoined_formed {r : RoomV} (h : formedR r = true) : validM [⟨r.id, r.ho, r.kd, 0, r.ac, r.ba, r.bc, r.bl⟩] = true := by
 have h0 := formedR_in h
 have hf : formedR ⟨r.id, r.ho, r.kd, 0, r.ac, r.ba, r.bc, r.bl⟩ = true := by
  unfold formedR at h ⊢
  simp only [Bool.and_eq_true, decide_eq_true_eq] at h ⊢
  exact ⟨h.1, h.2.1, h.2.2.1, by decide, by omega, h.2.2.2.2.2⟩
 unfold validM
 simp [hf, joinsB]
set_option maxRecDepth 100000 in
set_option maxHeartbeats 3200000 in
theorem Fits_p (s : StayV) (r : RoomV) (p : Bool) (hp : suitB s r = p) (w : World) (hg : s.Good) (hin : r.In w) (hv : formedR r = true) :
  Calls Tryz.prog 33 #[.agg #[.int .i64 s.id, .int .i64 s.kd, .int .i64 s.fr, .int .i64 s.un, .int .i64 s.ps, .int .i64 s.rm, .int .i64 s.wt, .bool s.ac, .bool s.inn], .agg #[.int .i64 r.id, .int .i64 r.ho, .int .i64 r.kd, .int .i64 r.jn, .bool r.ac, .slice r.ba r.bl.length r.bc]] w fun e w' => e = .returned (.tuple #[.bool p, .int .i64 0]) ∧ Below w.heap.size w w' := by
 have HP := Lib.hid hp
 have HI := Lib.hid hin
 have HV := Lib.hid hv
 have hne : (r.jn == r.id) = false := by simpa using (formedR_in hv).2.2.1
 have HIj := Lib.hid (formedR_in hv).2.1
 have HG := Lib.hid hg
 clear hp hin hv hg
 go_enter Tryz.func33, Tryz.ntmps33
 go_wp2_with fail
 refine (wrong_no s _ HG.out).mono ?_
 rintro e w1 ⟨rfl, hb1⟩
 have R_s_1 : Row w1 (w.heap.size) [.int .i64 s.id, .int .i64 s.kd, .int .i64 s.fr, .int .i64 s.un, .int .i64 s.ps, .int .i64 s.rm, .int .i64 s.wt, .bool s.ac, .bool s.inn] := by (repeat' (first | (with_reducible assumption) | (with_reducible refine Row.new' _ _ _ (by first | rfl | (simp; done) | omega)) | (with_reducible first | refine Row.alloc ?_ _ | refine Row.drew ?_ | refine Row.step ?_ (by assumption) | refine Row.drewN ?_ _) | (with_reducible refine Row.set2' ?_ _ _; first | exact ⟨_, _, by assumption⟩ | exact ⟨_, _, Row.alloc (by assumption) _⟩) | (with_reducible refine Row.other ?_ (by first | omega | (simp; omega)) _)))
 have c_s_0_1 := R_s_1.cell 0 rfl
 have c_s_1_1 := R_s_1.cell 1 rfl
 have c_s_2_1 := R_s_1.cell 2 rfl
 have c_s_3_1 := R_s_1.cell 3 rfl
 have c_s_4_1 := R_s_1.cell 4 rfl
 have c_s_5_1 := R_s_1.cell 5 rfl
 have c_s_6_1 := R_s_1.cell 6 rfl
 have c_s_7_1 := R_s_1.cell 7 rfl
 have c_s_8_1 := R_s_1.cell 8 rfl
 have l_s_1 := R_s_1.lt
 have R_r_1 : Row w1 (w.heap.size + 1) [.int .i64 r.id, .int .i64 r.ho, .int .i64 r.kd, .int .i64 r.jn, .bool r.ac, .slice r.ba r.bl.length r.bc] := by (repeat' (first | (with_reducible assumption) | (with_reducible refine Row.new' _ _ _ (by first | rfl | (simp; done) | omega)) | (with_reducible first | refine Row.alloc ?_ _ | refine Row.drew ?_ | refine Row.step ?_ (by assumption) | refine Row.drewN ?_ _) | (with_reducible refine Row.set2' ?_ _ _; first | exact ⟨_, _, by assumption⟩ | exact ⟨_, _, Row.alloc (by assumption) _⟩) | (with_reducible refine Row.other ?_ (by first | omega | (simp; omega)) _)))
 have c_r_0_1 := R_r_1.cell 0 rfl
 have c_r_1_1 := R_r_1.cell 1 rfl
 have c_r_2_1 := R_r_1.cell 2 rfl
 have c_r_3_1 := R_r_1.cell 3 rfl
 have c_r_4_1 := R_r_1.cell 4 rfl
 have c_r_5_1 := R_r_1.cell 5 rfl
 have l_r_1 := R_r_1.lt
 have HB1 : Below w.heap.size w w1 := by (repeat' (first | (with_reducible first | exact Below.refl _ _ | assumption | exact Bw.out (by assumption) | refine bw_alloc ?_ _ | refine bw_step ?_ (by assumption) | refine Below.alloc ?_ ?_ _ | refine Below.drew ?_ | refine below_drewN ?_ _ | refine Below.setCell ?_ ?_ _ | refine below_step ?_ (by assumption) ?_ | exact Nat.le_refl _) | omega | (simp; omega) | (simp; done)))
 go_wp2_with fail
 refine (unjoined_p r _).mono ?_
 rintro e w2 ⟨rfl, hb2⟩
 have R_s_2 : Row w2 (w.heap.size) [.int .i64 s.id, .int .i64 s.kd, .int .i64 s.fr, .int .i64 s.un, .int .i64 s.ps, .int .i64 s.rm, .int .i64 s.wt, .bool s.ac, .bool s.inn] := by (repeat' (first | (with_reducible assumption) | (with_reducible refine Row.new' _ _ _ (by first | rfl | (simp; done) | omega)) | (with_reducible first | refine Row.alloc ?_ _ | refine Row.drew ?_ | refine Row.step ?_ (by assumption) | refine Row.drewN ?_ _) | (with_reducible refine Row.set2' ?_ _ _; first | exact ⟨_, _, by assumption⟩ | exact ⟨_, _, Row.alloc (by assumption) _⟩) | (with_reducible refine Row.other ?_ (by first | omega | (simp; omega)) _)))
 have c_s_0_2 := R_s_2.cell 0 rfl
 have c_s_1_2 := R_s_2.cell 1 rfl
 have c_s_2_2 := R_s_2.cell 2 rfl
 have c_s_3_2 := R_s_2.cell 3 rfl
 have c_s_4_2 := R_s_2.cell 4 rfl
 have c_s_5_2 := R_s_2.cell 5 rfl
 have c_s_6_2 := R_s_2.cell 6 rfl
 have c_s_7_2 := R_s_2.cell 7 rfl
 have c_s_8_2 := R_s_2.cell 8 rfl
 have l_s_2 := R_s_2.lt
 have R_r_2 : Row w2 (w.heap.size + 1) [.int .i64 r.id, .int .i64 r.ho, .int .i64 r.kd, .int .i64 r.jn, .bool r.ac, .slice r.ba r.bl.length r.bc] := by (repeat' (first | (with_reducible assumption) | (with_reducible refine Row.new' _ _ _ (by first | rfl | (simp; done) | omega)) | (with_reducible first | refine Row.alloc ?_ _ | refine Row.drew ?_ | refine Row.step ?_ (by assumption) | refine Row.drewN ?_ _) | (with_reducible refine Row.set2' ?_ _ _; first | exact ⟨_, _, by assumption⟩ | exact ⟨_, _, Row.alloc (by assumption) _⟩) | (with_reducible refine Row.other ?_ (by first | omega | (simp; omega)) _)))
 have c_r_0_2 := R_r_2.cell 0 rfl
 have c_r_1_2 := R_r_2.cell 1 rfl
 have c_r_2_2 := R_r_2.cell 2 rfl
 have c_r_3_2 := R_r_2.cell 3 rfl
 have c_r_4_2 := R_r_2.cell 4 rfl
 have c_r_5_2 := R_r_2.cell 5 rfl
 have l_r_2 := R_r_2.lt
 have HB2 : Below w.heap.size w w2 := by (repeat' (first | (with_reducible first | exact Below.refl _ _ | assumption | exact Bw.out (by assumption) | refine bw_alloc ?_ _ | refine bw_step ?_ (by assumption) | refine Below.alloc ?_ ?_ _ | refine Below.drew ?_ | refine below_drewN ?_ _ | refine Below.setCell ?_ ?_ _ | refine below_step ?_ (by assumption) ?_ | exact Nat.le_refl _) | omega | (simp; omega) | (simp; done)))
 clear R_s_1 c_s_0_1 c_s_1_1 c_s_2_1 c_s_3_1 c_s_4_1 c_s_5_1 c_s_6_1 c_s_7_1 c_s_8_1 R_r_1 c_r_0_1 c_r_1_1 c_r_2_1 c_r_3_1 c_r_4_1 c_r_5_1 hb1 HB1
 go_wp2_with fail
 have hz : Row (w2.alloc (.cells #[.int .i64 r.id, .int .i64 r.ho, .int .i64 r.kd, .int .i64 0, .bool r.ac, .slice r.ba r.bl.length r.bc] 42)) w2.heap.size ([(⟨r.id, r.ho, r.kd, 0, r.ac, r.ba, r.bc, r.bl⟩ : RoomV)].flatMap rmE.c ++ []) := Row.new' _ _ _ rfl
 have hzm : SlM (w2.alloc (.cells #[.int .i64 r.id, .int .i64 r.ho, .int .i64 r.kd, .int .i64 0, .bool r.ac, .slice r.ba r.bl.length r.bc] 42)) (some ⟨w2.heap.size, 0, none⟩) 1 [(⟨r.id, r.ho, r.kd, 0, r.ac, r.ba, r.bc, r.bl⟩ : RoomV)] := ⟨SlG.row hz rfl, fun x hx => by
  simp only [List.mem_singleton] at hx
  subst hx
  exact HI.out.step (by (repeat' (first | (with_reducible first | exact Below.refl _ _ | assumption | exact Bw.out (by assumption) | refine bw_alloc ?_ _ | refine bw_step ?_ (by assumption) | refine Below.alloc ?_ ?_ _ | refine Below.drew ?_ | refine below_drewN ?_ _ | refine Below.setCell ?_ ?_ _ | refine below_step ?_ (by assumption) ?_ | exact Nat.le_refl _) | omega | (simp; omega) | (simp; done))))⟩
 refine (rvalid_p _ 1 1 _ _ (by omega) hzm true (unjoined_formed HV.out)).mono ?_
 rintro e w3 ⟨rfl, hb3⟩
 have R_s_3 : Row w3 (w.heap.size) [.int .i64 s.id, .int .i64 s.kd, .int .i64 s.fr, .int .i64 s.un, .int .i64 s.ps, .int .i64 s.rm, .int .i64 s.wt, .bool s.ac, .bool s.inn] := by (repeat' (first | (with_reducible assumption) | (with_reducible refine Row.new' _ _ _ (by first | rfl | (simp; done) | omega)) | (with_reducible first | refine Row.alloc ?_ _ | refine Row.drew ?_ | refine Row.step ?_ (by assumption) | refine Row.drewN ?_ _) | (with_reducible refine Row.set2' ?_ _ _; first | exact ⟨_, _, by assumption⟩ | exact ⟨_, _, Row.alloc (by assumption) _⟩) | (with_reducible refine Row.other ?_ (by first | omega | (simp; omega)) _)))
 have c_s_0_3 := R_s_3.cell 0 rfl
 have c_s_1_3 := R_s_3.cell 1 rfl
 have c_s_2_3 := R_s_3.cell 2 rfl
 have c_s_3_3 := R_s_3.cell 3 rfl
 have c_s_4_3 := R_s_3.cell 4 rfl
 have c_s_5_3 := R_s_3.cell 5 rfl
 have c_s_6_3 := R_s_3.cell 6 rfl
 have c_s_7_3 := R_s_3.cell 7 rfl
 have c_s_8_3 := R_s_3.cell 8 rfl
 have l_s_3 := R_s_3.lt
 have R_r_3 : Row w3 (w.heap.size + 1) [.int .i64 r.id, .int .i64 r.ho, .int .i64 r.kd, .int .i64 r.jn, .bool r.ac, .slice r.ba r.bl.length r.bc] := by (repeat' (first | (with_reducible assumption) | (with_reducible refine Row.new' _ _ _ (by first | rfl | (simp; done) | omega)) | (with_reducible first | refine Row.alloc ?_ _ | refine Row.drew ?_ | refine Row.step ?_ (by assumption) | refine Row.drewN ?_ _) | (with_reducible refine Row.set2' ?_ _ _; first | exact ⟨_, _, by assumption⟩ | exact ⟨_, _, Row.alloc (by assumption) _⟩) | (with_reducible refine Row.other ?_ (by first | omega | (simp; omega)) _)))
 have c_r_0_3 := R_r_3.cell 0 rfl
 have c_r_1_3 := R_r_3.cell 1 rfl
 have c_r_2_3 := R_r_3.cell 2 rfl
 have c_r_3_3 := R_r_3.cell 3 rfl
 have c_r_4_3 := R_r_3.cell 4 rfl
 have c_r_5_3 := R_r_3.cell 5 rfl
 have l_r_3 := R_r_3.lt
 have HB3 : Below w.heap.size w w3 := by (repeat' (first | (with_reducible first | exact Below.refl _ _ | assumption | exact Bw.out (by assumption) | refine bw_alloc ?_ _ | refine bw_step ?_ (by assumption) | refine Below.alloc ?_ ?_ _ | refine Below.drew ?_ | refine below_drewN ?_ _ | refine Below.setCell ?_ ?_ _ | refine below_step ?_ (by assumption) ?_ | exact Nat.le_refl _) | omega | (simp; omega) | (simp; done)))
 clear R_s_2 c_s_0_2 c_s_1_2 c_s_2_2 c_s_3_2 c_s_4_2 c_s_5_2 c_s_6_2 c_s_7_2 c_s_8_2 R_r_2 c_r_0_2 c_r_1_2 c_r_2_2 c_r_3_2 c_r_4_2 c_r_5_2 hb2 HB2
 go_wp2_with fail
 refine (swithin_p r.jn 0 1000000 true (inZ_yes HIj.out) _).mono ?_
 rintro e w4 ⟨rfl, hb4⟩
 have R_s_4 : Row w4 (w.heap.size) [.int .i64 s.id, .int .i64 s.kd, .int .i64 s.fr, .int .i64 s.un, .int .i64 s.ps, .int .i64 s.rm, .int .i64 s.wt, .bool s.ac, .bool s.inn] := by (repeat' (first | (with_reducible assumption) | (with_reducible refine Row.new' _ _ _ (by first | rfl | (simp; done) | omega)) | (with_reducible first | refine Row.alloc ?_ _ | refine Row.drew ?_ | refine Row.step ?_ (by assumption) | refine Row.drewN ?_ _) | (with_reducible refine Row.set2' ?_ _ _; first | exact ⟨_, _, by assumption⟩ | exact ⟨_, _, Row.alloc (by assumption) _⟩) | (with_reducible refine Row.other ?_ (by first | omega | (simp; omega)) _)))
 have c_s_0_4 := R_s_4.cell 0 rfl
 have c_s_1_4 := R_s_4.cell 1 rfl
 have c_s_2_4 := R_s_4.cell 2 rfl
 have c_s_3_4 := R_s_4.cell 3 rfl
 have c_s_4_4 := R_s_4.cell 4 rfl
 have c_s_5_4 := R_s_4.cell 5 rfl
 have c_s_6_4 := R_s_4.cell 6 rfl
 have c_s_7_4 := R_s_4.cell 7 rfl
 have c_s_8_4 := R_s_4.cell 8 rfl
 have l_s_4 := R_s_4.lt
 have R_r_4 : Row w4 (w.heap.size + 1) [.int .i64 r.id, .int .i64 r.ho, .int .i64 r.kd, .int .i64 r.jn, .bool r.ac, .slice r.ba r.bl.length r.bc] := by (repeat' (first | (with_reducible assumption) | (with_reducible refine Row.new' _ _ _ (by first | rfl | (simp; done) | omega)) | (with_reducible first | refine Row.alloc ?_ _ | refine Row.drew ?_ | refine Row.step ?_ (by assumption) | refine Row.drewN ?_ _) | (with_reducible refine Row.set2' ?_ _ _; first | exact ⟨_, _, by assumption⟩ | exact ⟨_, _, Row.alloc (by assumption) _⟩) | (with_reducible refine Row.other ?_ (by first | omega | (simp; omega)) _)))
 have c_r_0_4 := R_r_4.cell 0 rfl
 have c_r_1_4 := R_r_4.cell 1 rfl
 have c_r_2_4 := R_r_4.cell 2 rfl
 have c_r_3_4 := R_r_4.cell 3 rfl
 have c_r_4_4 := R_r_4.cell 4 rfl
 have c_r_5_4 := R_r_4.cell 5 rfl
 have l_r_4 := R_r_4.lt
 have HB4 : Below w.heap.size w w4 := by (repeat' (first | (with_reducible first | exact Below.refl _ _ | assumption | exact Bw.out (by assumption) | refine bw_alloc ?_ _ | refine bw_step ?_ (by assumption) | refine Below.alloc ?_ ?_ _ | refine Below.drew ?_ | refine below_drewN ?_ _ | refine Below.setCell ?_ ?_ _ | refine below_step ?_ (by assumption) ?_ | exact Nat.le_refl _) | omega | (simp; omega) | (simp; done)))
 clear R_s_3 c_s_0_3 c_s_1_3 c_s_2_3 c_s_3_3 c_s_4_3 c_s_5_3 c_s_6_3 c_s_7_3 c_s_8_3 R_r_3 c_r_0_3 c_r_1_3 c_r_2_3 c_r_3_3 c_r_4_3 c_r_5_3 hb3 HB3
 go_wp2_with fail
 refine (suits_p s r p HP.out _ HG.out (HI.out.step (by (repeat' (first | (with_reducible first | exact Below.refl _ _ | assumption | exact Bw.out (by assumption) | refine bw_alloc ?_ _ | refine bw_step ?_ (by assumption) | refine Below.alloc ?_ ?_ _ | refine Below.drew ?_ | refine below_drewN ?_ _ | refine Below.setCell ?_ ?_ _ | refine below_step ?_ (by assumption) ?_ | exact Nat.le_refl _) | omega | (simp; omega) | (simp; done))))) HV.out).mono ?_
 rintro e w5 ⟨rfl, hb5⟩
 have R_s_5 : Row w5 (w.heap.size) [.int .i64 s.id, .int .i64 s.kd, .int .i64 s.fr, .int .i64 s.un, .int .i64 s.ps, .int .i64 s.rm, .int .i64 s.wt, .bool s.ac, .bool s.inn] := by (repeat' (first | (with_reducible assumption) | (with_reducible refine Row.new' _ _ _ (by first | rfl | (simp; done) | omega)) | (with_reducible first | refine Row.alloc ?_ _ | refine Row.drew ?_ | refine Row.step ?_ (by assumption) | refine Row.drewN ?_ _) | (with_reducible refine Row.set2' ?_ _ _; first | exact ⟨_, _, by assumption⟩ | exact ⟨_, _, Row.alloc (by assumption) _⟩) | (with_reducible refine Row.other ?_ (by first | omega | (simp; omega)) _)))
 have c_s_0_5 := R_s_5.cell 0 rfl
 have c_s_1_5 := R_s_5.cell 1 rfl
 have c_s_2_5 := R_s_5.cell 2 rfl
 have c_s_3_5 := R_s_5.cell 3 rfl
 have c_s_4_5 := R_s_5.cell 4 rfl
 have c_s_5_5 := R_s_5.cell 5 rfl
 have c_s_6_5 := R_s_5.cell 6 rfl
 have c_s_7_5 := R_s_5.cell 7 rfl
 have c_s_8_5 := R_s_5.cell 8 rfl
 have l_s_5 := R_s_5.lt
 have R_r_5 : Row w5 (w.heap.size + 1) [.int .i64 r.id, .int .i64 r.ho, .int .i64 r.kd, .int .i64 r.jn, .bool r.ac, .slice r.ba r.bl.length r.bc] := by (repeat' (first | (with_reducible assumption) | (with_reducible refine Row.new' _ _ _ (by first | rfl | (simp; done) | omega)) | (with_reducible first | refine Row.alloc ?_ _ | refine Row.drew ?_ | refine Row.step ?_ (by assumption) | refine Row.drewN ?_ _) | (with_reducible refine Row.set2' ?_ _ _; first | exact ⟨_, _, by assumption⟩ | exact ⟨_, _, Row.alloc (by assumption) _⟩) | (with_reducible refine Row.other ?_ (by first | omega | (simp; omega)) _)))
 have c_r_0_5 := R_r_5.cell 0 rfl
 have c_r_1_5 := R_r_5.cell 1 rfl
 have c_r_2_5 := R_r_5.cell 2 rfl
 have c_r_3_5 := R_r_5.cell 3 rfl
 have c_r_4_5 := R_r_5.cell 4 rfl
 have c_r_5_5 := R_r_5.cell 5 rfl
 have l_r_5 := R_r_5.lt
 have HB5 : Below w.heap.size w w5 := by (repeat' (first | (with_reducible first | exact Below.refl _ _ | assumption | exact Bw.out (by assumption) | refine bw_alloc ?_ _ | refine bw_step ?_ (by assumption) | refine Below.alloc ?_ ?_ _ | refine Below.drew ?_ | refine below_drewN ?_ _ | refine Below.setCell ?_ ?_ _ | refine below_step ?_ (by assumption) ?_ | exact Nat.le_refl _) | omega | (simp; omega) | (simp; done)))
 clear R_s_4 c_s_0_4 c_s_1_4 c_s_2_4 c_s_3_4 c_s_4_4 c_s_5_4 c_s_6_4 c_s_7_4 c_s_8_4 R_r_4 c_r_0_4 c_r_1_4 c_r_2_4 c_r_3_4 c_r_4_4 c_r_5_4 hb4 HB4
 go_wp2_with fail
 go_ret2
 refine ⟨(by first | rfl | exact ret_bool (by first | rfl | (simp; done) | (simp; omega))), ?_⟩
 (repeat' (first | (with_reducible first | exact Below.refl _ _ | assumption | exact Bw.out (by assumption) | refine bw_alloc ?_ _ | refine bw_step ?_ (by assumption) | refine Below.alloc ?_ ?_ _ | refine Below.drew ?_ | refine below_drewN ?_ _ | refine Below.setCell ?_ ?_ _ | refine below_step ?_ (by assumption) ?_ | exact Nat.le_refl _) | omega | (simp; omega) | (simp; done)))
end Go.Proofs.YtlmajlfhjbhdpaaGreat
