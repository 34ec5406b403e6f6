/-
 slices.ContainsFunc at stays, spans; the walks of package rooms: formed, isPeriod.
-/
import Derived.Test.YtlmajlfhjbhdpaaGreatZD
namespace Go.Proofs.YtlmajlfhjbhdpaaGreat
set_option linter.unusedSimpArgs false
set_option linter.unusedVariables false
open Go.RowKit
set_option maxRecDepth 100000 in
set_option maxHeartbeats 1600000 in
theorem hasT_any (a : Option Addr) (n cap : Nat) (l : List StayV) (w : World) (hm : n ≤ 9223372036854775807) (hs : SlG stE w a n l) (g : Nat) (lb : Array Value) (eg : ∀ args w, (callFunc g args).run Tryz.prog w = .ok (.enter g args) w) (p : StayV → Bool)
  (hp : ∀ W x, x ∈ l → Below w.heap.size w W → Calls Tryz.prog g (#[.agg (stE.c x).toArray] ++ lb) W fun e w' => e = .returned (.bool (p x)) ∧ Below W.heap.size W w') (R : Bool) (hR : l.any p = R) :
  Calls Tryz.prog 35 #[.slice a n cap, .func (.func g) #[] lb] w fun e w' => e = .returned (.bool R) ∧ Below w.heap.size w w' := by
 have hc := fun R' hR' => idxT_any a n cap l w hm hs hs.1 g lb eg p hp R' hR'
 rw [← idxP_any] at hR
 clear hs hp
 obtain ⟨R', hR'⟩ : ∃ R', idxP p l 0 = R' := ⟨_, rfl⟩
 have hc' := hc R' hR'
 rw [hR'] at hR
 clear hc hR'
 subst hR
 go_enter Tryz.func35, Tryz.ntmps35
 go_wp2_with fail
 refine hc'.mono ?_
 rintro e w' ⟨rfl, hb⟩
 clear hc'
 go_wp2_with fail
 go_ret
 exact ⟨rfl, hb⟩
set_option maxRecDepth 100000 in
set_option maxHeartbeats 1600000 in
theorem hasS_any (a : Option Addr) (n cap : Nat) (l : List (Int × Int)) (w : World) (hm : n ≤ 9223372036854775807) (hs : SlG spE w a n l) (g : Nat) (lb : Array Value) (eg : ∀ args w, (callFunc g args).run Tryz.prog w = .ok (.enter g args) w) (p : (Int × Int) → Bool)
  (hp : ∀ W x, x ∈ l → Below w.heap.size w W → Calls Tryz.prog g (#[.agg (spE.c x).toArray] ++ lb) W fun e w' => e = .returned (.bool (p x)) ∧ Below W.heap.size W w') (R : Bool) (hR : l.any p = R) :
  Calls Tryz.prog 62 #[.slice a n cap, .func (.func g) #[] lb] w fun e w' => e = .returned (.bool R) ∧ Below w.heap.size w w' := by
 have hc := fun R' hR' => idxS_any a n cap l w hm hs hs.1 g lb eg p hp R' hR'
 rw [← idxP_any] at hR
 clear hs hp
 obtain ⟨R', hR'⟩ : ∃ R', idxP p l 0 = R' := ⟨_, rfl⟩
 have hc' := hc R' hR'
 rw [hR'] at hR
 clear hc hR'
 subst hR
 go_enter Tryz.func62, Tryz.ntmps62
 go_wp2_with fail
 refine hc'.mono ?_
 rintro e w' ⟨rfl, hb⟩
 clear hc'
 go_wp2_with fail
 go_ret
 exact ⟨rfl, hb⟩
set_option maxHeartbeats 800000 in
theorem late_any (x : Int × Int) (w : World) :
  Calls Tryz.prog 59 (#[.agg (spE.c x).toArray] ++ #[]) w fun e w' => e = .returned (.bool (lateB x)) ∧ Below w.heap.size w w' := by
 obtain ⟨f, u⟩ := x
 show Calls Tryz.prog 59 #[.agg #[.int .i64 f, .int .i64 u]] w _
 have e : lateB (f, u) = decide (366 < u) := rfl
 rw [e]
 clear e
 go_enter Tryz.func59, Tryz.ntmps59
 go_wp2_with fail
 go_ret
 refine ⟨(by first | rfl | exact ret_bool (by first | rfl | (simp; done) | (simp; omega))), ?_⟩
 (repeat' (first | (with_reducible first | exact Below.refl _ _ | assumption | exact Bw.out (by assumption) | refine bw_alloc ?_ _ | refine bw_step ?_ (by assumption) | refine Below.alloc ?_ ?_ _ | refine Below.drew ?_ | refine below_drewN ?_ _ | refine Below.setCell ?_ ?_ _ | refine below_step ?_ (by assumption) ?_ | exact Nat.le_refl _) | omega | (simp; omega) | (simp; done)))
set_option maxRecDepth 100000 in
set_option maxHeartbeats 1600000 in
theorem formed_p (r : RoomV) (p : Bool) (hp : formedR r = p) (w : World) (hin : r.In w) :
  Calls Tryz.prog 44 #[.agg #[.int .i64 r.id, .int .i64 r.ho, .int .i64 r.kd, .int .i64 r.jn, .bool r.ac, .slice r.ba r.bl.length r.bc]] w fun e w' => e = .returned (.bool p) ∧ Below w.heap.size w w' := by
 subst hp
 obtain ⟨p1, hp1⟩ : ∃ p, inZ r.id 1 1000000 = p := ⟨_, rfl⟩
 obtain ⟨p2, hp2⟩ : ∃ p, inZ r.ho 1 20 = p := ⟨_, rfl⟩
 obtain ⟨p3, hp3⟩ : ∃ p, inZ r.kd 1 20 = p := ⟨_, rfl⟩
 obtain ⟨p4, hp4⟩ : ∃ p, inZ r.jn 0 1000000 = p := ⟨_, rfl⟩
 obtain ⟨p5, hp5⟩ : ∃ p, (r.jn != r.id) = p := ⟨_, rfl⟩
 obtain ⟨p6, hp6⟩ : ∃ p, validS r.bl = p := ⟨_, rfl⟩
 obtain ⟨p7, hp7⟩ : ∃ p, r.bl.any lateB = p := ⟨_, rfl⟩
 have e : formedR r = (p1 && (p2 && (p3 && (p4 && (p5 && (p6 && !p7)))))) := by unfold formedR; rw [hp1, hp2, hp3, hp4, hp6, hp7, ← hp5]; congr 5; rw [Bool.eq_iff_iff]; simp
 rw [e]
 have HP1 := Lib.hid hp1
 have HP2 := Lib.hid hp2
 have HP3 := Lib.hid hp3
 have HP4 := Lib.hid hp4
 have HP6 := Lib.hid hp6
 have HP7 := Lib.hid hp7
 have HB := Lib.hid hin.1
 have HN := Lib.hid hin.big
 have hla : ∀ (w0 W : World) (x : Int × Int), x ∈ r.bl → Below w0.heap.size w0 W → Calls Tryz.prog 59 (#[.agg (spE.c x).toArray] ++ #[]) W fun e w' => e = .returned (.bool (lateB x)) ∧ Below W.heap.size W w' := fun _ W x _ _ => late_any x W
 have eg : ∀ args w, (callFunc 59 args).run Tryz.prog w = .ok (.enter 59 args) w := enters_of Tryz.func59 (by kernel_rfl) rfl
 clear hp1 hp2 hp3 hp4 hp6 hp7 hin e
 go_enter Tryz.func44, Tryz.ntmps44
 go_wp2_with fail
 refine (rwithin_p r.id 1 1000000 p1 HP1.out _).mono ?_
 rintro e w1 ⟨rfl, hb1⟩
 have R_r_1 : Row w1 (w.heap.size) [.int .i64 r.id, .int .i64 r.ho, .int .i64 r.kd, .int .i64 r.jn, .bool r.ac, .slice r.ba r.bl.length r.bc] := by (repeat' (first | (with_reducible assumption) | (with_reducible refine Row.new' _ _ _ (by first | rfl | (simp; done) | omega)) | (with_reducible first | refine Row.alloc ?_ _ | refine Row.drew ?_ | refine Row.step ?_ (by assumption) | refine Row.drewN ?_ _) | (with_reducible refine Row.set2' ?_ _ _; first | exact ⟨_, _, by assumption⟩ | exact ⟨_, _, Row.alloc (by assumption) _⟩) | (with_reducible refine Row.other ?_ (by first | omega | (simp; omega)) _)))
 have c_r_0_1 := R_r_1.cell 0 rfl
 have c_r_1_1 := R_r_1.cell 1 rfl
 have c_r_2_1 := R_r_1.cell 2 rfl
 have c_r_3_1 := R_r_1.cell 3 rfl
 have c_r_4_1 := R_r_1.cell 4 rfl
 have c_r_5_1 := R_r_1.cell 5 rfl
 have l_r_1 := R_r_1.lt
 have HB1 : Below w.heap.size w w1 := by (repeat' (first | (with_reducible first | exact Below.refl _ _ | assumption | exact Bw.out (by assumption) | refine bw_alloc ?_ _ | refine bw_step ?_ (by assumption) | refine Below.alloc ?_ ?_ _ | refine Below.drew ?_ | refine below_drewN ?_ _ | refine Below.setCell ?_ ?_ _ | refine below_step ?_ (by assumption) ?_ | exact Nat.le_refl _) | omega | (simp; omega) | (simp; done)))
 cases p1 with
 | false =>
  go_wp2_with fail
  go_ret
  refine ⟨(by first | rfl | exact ret_bool (by first | rfl | (simp; done) | (simp; omega))), ?_⟩
  (repeat' (first | (with_reducible first | exact Below.refl _ _ | assumption | exact Bw.out (by assumption) | refine bw_alloc ?_ _ | refine bw_step ?_ (by assumption) | refine Below.alloc ?_ ?_ _ | refine Below.drew ?_ | refine below_drewN ?_ _ | refine Below.setCell ?_ ?_ _ | refine below_step ?_ (by assumption) ?_ | exact Nat.le_refl _) | omega | (simp; omega) | (simp; done)))
 | true =>
  go_wp2_with fail
  refine (rwithin_p r.ho 1 20 p2 HP2.out _).mono ?_
  rintro e w2 ⟨rfl, hb2⟩
  have R_r_2 : Row w2 (w.heap.size) [.int .i64 r.id, .int .i64 r.ho, .int .i64 r.kd, .int .i64 r.jn, .bool r.ac, .slice r.ba r.bl.length r.bc] := by (repeat' (first | (with_reducible assumption) | (with_reducible refine Row.new' _ _ _ (by first | rfl | (simp; done) | omega)) | (with_reducible first | refine Row.alloc ?_ _ | refine Row.drew ?_ | refine Row.step ?_ (by assumption) | refine Row.drewN ?_ _) | (with_reducible refine Row.set2' ?_ _ _; first | exact ⟨_, _, by assumption⟩ | exact ⟨_, _, Row.alloc (by assumption) _⟩) | (with_reducible refine Row.other ?_ (by first | omega | (simp; omega)) _)))
  have c_r_0_2 := R_r_2.cell 0 rfl
  have c_r_1_2 := R_r_2.cell 1 rfl
  have c_r_2_2 := R_r_2.cell 2 rfl
  have c_r_3_2 := R_r_2.cell 3 rfl
  have c_r_4_2 := R_r_2.cell 4 rfl
  have c_r_5_2 := R_r_2.cell 5 rfl
  have l_r_2 := R_r_2.lt
  have HB2 : Below w.heap.size w w2 := by (repeat' (first | (with_reducible first | exact Below.refl _ _ | assumption | exact Bw.out (by assumption) | refine bw_alloc ?_ _ | refine bw_step ?_ (by assumption) | refine Below.alloc ?_ ?_ _ | refine Below.drew ?_ | refine below_drewN ?_ _ | refine Below.setCell ?_ ?_ _ | refine below_step ?_ (by assumption) ?_ | exact Nat.le_refl _) | omega | (simp; omega) | (simp; done)))
  clear R_r_1 c_r_0_1 c_r_1_1 c_r_2_1 c_r_3_1 c_r_4_1 c_r_5_1 hb1 HB1
  cases p2 with
  | false =>
   go_wp2_with fail
   go_ret
   refine ⟨(by first | rfl | exact ret_bool (by first | rfl | (simp; done) | (simp; omega))), ?_⟩
   (repeat' (first | (with_reducible first | exact Below.refl _ _ | assumption | exact Bw.out (by assumption) | refine bw_alloc ?_ _ | refine bw_step ?_ (by assumption) | refine Below.alloc ?_ ?_ _ | refine Below.drew ?_ | refine below_drewN ?_ _ | refine Below.setCell ?_ ?_ _ | refine below_step ?_ (by assumption) ?_ | exact Nat.le_refl _) | omega | (simp; omega) | (simp; done)))
  | true =>
   go_wp2_with fail
   refine (rwithin_p r.kd 1 20 p3 HP3.out _).mono ?_
   rintro e w3 ⟨rfl, hb3⟩
   have R_r_3 : Row w3 (w.heap.size) [.int .i64 r.id, .int .i64 r.ho, .int .i64 r.kd, .int .i64 r.jn, .bool r.ac, .slice r.ba r.bl.length r.bc] := by (repeat' (first | (with_reducible assumption) | (with_reducible refine Row.new' _ _ _ (by first | rfl | (simp; done) | omega)) | (with_reducible first | refine Row.alloc ?_ _ | refine Row.drew ?_ | refine Row.step ?_ (by assumption) | refine Row.drewN ?_ _) | (with_reducible refine Row.set2' ?_ _ _; first | exact ⟨_, _, by assumption⟩ | exact ⟨_, _, Row.alloc (by assumption) _⟩) | (with_reducible refine Row.other ?_ (by first | omega | (simp; omega)) _)))
   have c_r_0_3 := R_r_3.cell 0 rfl
   have c_r_1_3 := R_r_3.cell 1 rfl
   have c_r_2_3 := R_r_3.cell 2 rfl
   have c_r_3_3 := R_r_3.cell 3 rfl
   have c_r_4_3 := R_r_3.cell 4 rfl
   have c_r_5_3 := R_r_3.cell 5 rfl
   have l_r_3 := R_r_3.lt
   have HB3 : Below w.heap.size w w3 := by (repeat' (first | (with_reducible first | exact Below.refl _ _ | assumption | exact Bw.out (by assumption) | refine bw_alloc ?_ _ | refine bw_step ?_ (by assumption) | refine Below.alloc ?_ ?_ _ | refine Below.drew ?_ | refine below_drewN ?_ _ | refine Below.setCell ?_ ?_ _ | refine below_step ?_ (by assumption) ?_ | exact Nat.le_refl _) | omega | (simp; omega) | (simp; done)))
   clear R_r_2 c_r_0_2 c_r_1_2 c_r_2_2 c_r_3_2 c_r_4_2 c_r_5_2 hb2 HB2
   cases p3 with
   | false =>
    go_wp2_with fail
    go_ret
    refine ⟨(by first | rfl | exact ret_bool (by first | rfl | (simp; done) | (simp; omega))), ?_⟩
    (repeat' (first | (with_reducible first | exact Below.refl _ _ | assumption | exact Bw.out (by assumption) | refine bw_alloc ?_ _ | refine bw_step ?_ (by assumption) | refine Below.alloc ?_ ?_ _ | refine Below.drew ?_ | refine below_drewN ?_ _ | refine Below.setCell ?_ ?_ _ | refine below_step ?_ (by assumption) ?_ | exact Nat.le_refl _) | omega | (simp; omega) | (simp; done)))
   | true =>
    go_wp2_with fail
    refine (rwithin_p r.jn 0 1000000 p4 HP4.out _).mono ?_
    rintro e w4 ⟨rfl, hb4⟩
    have R_r_4 : Row w4 (w.heap.size) [.int .i64 r.id, .int .i64 r.ho, .int .i64 r.kd, .int .i64 r.jn, .bool r.ac, .slice r.ba r.bl.length r.bc] := by (repeat' (first | (with_reducible assumption) | (with_reducible refine Row.new' _ _ _ (by first | rfl | (simp; done) | omega)) | (with_reducible first | refine Row.alloc ?_ _ | refine Row.drew ?_ | refine Row.step ?_ (by assumption) | refine Row.drewN ?_ _) | (with_reducible refine Row.set2' ?_ _ _; first | exact ⟨_, _, by assumption⟩ | exact ⟨_, _, Row.alloc (by assumption) _⟩) | (with_reducible refine Row.other ?_ (by first | omega | (simp; omega)) _)))
    have c_r_0_4 := R_r_4.cell 0 rfl
    have c_r_1_4 := R_r_4.cell 1 rfl
    have c_r_2_4 := R_r_4.cell 2 rfl
    have c_r_3_4 := R_r_4.cell 3 rfl
    have c_r_4_4 := R_r_4.cell 4 rfl
    have c_r_5_4 := R_r_4.cell 5 rfl
    have l_r_4 := R_r_4.lt
    have HB4 : Below w.heap.size w w4 := by (repeat' (first | (with_reducible first | exact Below.refl _ _ | assumption | exact Bw.out (by assumption) | refine bw_alloc ?_ _ | refine bw_step ?_ (by assumption) | refine Below.alloc ?_ ?_ _ | refine Below.drew ?_ | refine below_drewN ?_ _ | refine Below.setCell ?_ ?_ _ | refine below_step ?_ (by assumption) ?_ | exact Nat.le_refl _) | omega | (simp; omega) | (simp; done)))
    clear R_r_3 c_r_0_3 c_r_1_3 c_r_2_3 c_r_3_3 c_r_4_3 c_r_5_3 hb3 HB3
    cases p4 with
    | false =>
     go_wp2_with fail
     go_ret
     refine ⟨(by first | rfl | exact ret_bool (by first | rfl | (simp; done) | (simp; omega))), ?_⟩
     (repeat' (first | (with_reducible first | exact Below.refl _ _ | assumption | exact Bw.out (by assumption) | refine bw_alloc ?_ _ | refine bw_step ?_ (by assumption) | refine Below.alloc ?_ ?_ _ | refine Below.drew ?_ | refine below_drewN ?_ _ | refine Below.setCell ?_ ?_ _ | refine below_step ?_ (by assumption) ?_ | exact Nat.le_refl _) | omega | (simp; omega) | (simp; done)))
    | true =>
     cases p5 with
     | false =>
      go_wp2_with fail
      go_ret
      refine ⟨(by first | rfl | exact ret_bool (by first | rfl | (simp; done) | (simp; omega))), ?_⟩
      (repeat' (first | (with_reducible first | exact Below.refl _ _ | assumption | exact Bw.out (by assumption) | refine bw_alloc ?_ _ | refine bw_step ?_ (by assumption) | refine Below.alloc ?_ ?_ _ | refine Below.drew ?_ | refine below_drewN ?_ _ | refine Below.setCell ?_ ?_ _ | refine below_step ?_ (by assumption) ?_ | exact Nat.le_refl _) | omega | (simp; omega) | (simp; done)))
     | true =>
      go_wp2_with fail
      refine (spValid_any r.ba r.bl.length r.bc r.bl _ HN.out (HB.out.step HB4) p6 HP6.out).mono ?_
      rintro e w5 ⟨rfl, hb5⟩
      have R_r_5 : Row w5 (w.heap.size) [.int .i64 r.id, .int .i64 r.ho, .int .i64 r.kd, .int .i64 r.jn, .bool r.ac, .slice r.ba r.bl.length r.bc] := by (repeat' (first | (with_reducible assumption) | (with_reducible refine Row.new' _ _ _ (by first | rfl | (simp; done) | omega)) | (with_reducible first | refine Row.alloc ?_ _ | refine Row.drew ?_ | refine Row.step ?_ (by assumption) | refine Row.drewN ?_ _) | (with_reducible refine Row.set2' ?_ _ _; first | exact ⟨_, _, by assumption⟩ | exact ⟨_, _, Row.alloc (by assumption) _⟩) | (with_reducible refine Row.other ?_ (by first | omega | (simp; omega)) _)))
      have c_r_0_5 := R_r_5.cell 0 rfl
      have c_r_1_5 := R_r_5.cell 1 rfl
      have c_r_2_5 := R_r_5.cell 2 rfl
      have c_r_3_5 := R_r_5.cell 3 rfl
      have c_r_4_5 := R_r_5.cell 4 rfl
      have c_r_5_5 := R_r_5.cell 5 rfl
      have l_r_5 := R_r_5.lt
      have HB5 : Below w.heap.size w w5 := by (repeat' (first | (with_reducible first | exact Below.refl _ _ | assumption | exact Bw.out (by assumption) | refine bw_alloc ?_ _ | refine bw_step ?_ (by assumption) | refine Below.alloc ?_ ?_ _ | refine Below.drew ?_ | refine below_drewN ?_ _ | refine Below.setCell ?_ ?_ _ | refine below_step ?_ (by assumption) ?_ | exact Nat.le_refl _) | omega | (simp; omega) | (simp; done)))
      clear R_r_4 c_r_0_4 c_r_1_4 c_r_2_4 c_r_3_4 c_r_4_4 c_r_5_4 hb4 HB4
      cases p6 with
      | false =>
       go_wp2_with fail
       go_ret
       refine ⟨(by first | rfl | exact ret_bool (by first | rfl | (simp; done) | (simp; omega))), ?_⟩
       (repeat' (first | (with_reducible first | exact Below.refl _ _ | assumption | exact Bw.out (by assumption) | refine bw_alloc ?_ _ | refine bw_step ?_ (by assumption) | refine Below.alloc ?_ ?_ _ | refine Below.drew ?_ | refine below_drewN ?_ _ | refine Below.setCell ?_ ?_ _ | refine below_step ?_ (by assumption) ?_ | exact Nat.le_refl _) | omega | (simp; omega) | (simp; done)))
      | true =>
       go_wp2_with fail
       refine (hasS_any r.ba r.bl.length r.bc r.bl _ HN.out (HB.out.step HB5) 59 #[] eg lateB (hla _) p7 HP7.out).mono ?_
       rintro e w6 ⟨rfl, hb6⟩
       have R_r_6 : Row w6 (w.heap.size) [.int .i64 r.id, .int .i64 r.ho, .int .i64 r.kd, .int .i64 r.jn, .bool r.ac, .slice r.ba r.bl.length r.bc] := by (repeat' (first | (with_reducible assumption) | (with_reducible refine Row.new' _ _ _ (by first | rfl | (simp; done) | omega)) | (with_reducible first | refine Row.alloc ?_ _ | refine Row.drew ?_ | refine Row.step ?_ (by assumption) | refine Row.drewN ?_ _) | (with_reducible refine Row.set2' ?_ _ _; first | exact ⟨_, _, by assumption⟩ | exact ⟨_, _, Row.alloc (by assumption) _⟩) | (with_reducible refine Row.other ?_ (by first | omega | (simp; omega)) _)))
       have c_r_0_6 := R_r_6.cell 0 rfl
       have c_r_1_6 := R_r_6.cell 1 rfl
       have c_r_2_6 := R_r_6.cell 2 rfl
       have c_r_3_6 := R_r_6.cell 3 rfl
       have c_r_4_6 := R_r_6.cell 4 rfl
       have c_r_5_6 := R_r_6.cell 5 rfl
       have l_r_6 := R_r_6.lt
       have HB6 : Below w.heap.size w w6 := by (repeat' (first | (with_reducible first | exact Below.refl _ _ | assumption | exact Bw.out (by assumption) | refine bw_alloc ?_ _ | refine bw_step ?_ (by assumption) | refine Below.alloc ?_ ?_ _ | refine Below.drew ?_ | refine below_drewN ?_ _ | refine Below.setCell ?_ ?_ _ | refine below_step ?_ (by assumption) ?_ | exact Nat.le_refl _) | omega | (simp; omega) | (simp; done)))
       clear R_r_5 c_r_0_5 c_r_1_5 c_r_2_5 c_r_3_5 c_r_4_5 c_r_5_5 hb5 HB5
       go_wp2_with fail
       go_ret
       refine ⟨(by first | rfl | exact ret_bool (by first | rfl | (simp; done) | (simp; omega))), ?_⟩
       (repeat' (first | (with_reducible first | exact Below.refl _ _ | assumption | exact Bw.out (by assumption) | refine bw_alloc ?_ _ | refine bw_step ?_ (by assumption) | refine Below.alloc ?_ ?_ _ | refine Below.drew ?_ | refine below_drewN ?_ _ | refine Below.setCell ?_ ?_ _ | refine below_step ?_ (by assumption) ?_ | exact Nat.le_refl _) | omega | (simp; omega) | (simp; done)))
set_option maxRecDepth 100000 in
set_option maxHeartbeats 1600000 in
theorem isPeriod_yes (f u : Int) (w : World) (h0 : 0 ≤ f) (h1 : f < u) (h2 : u ≤ 366) :
  Calls Tryz.prog 63 #[.agg #[.int .i64 f, .int .i64 u]] w fun e w' => e = .returned (.bool true) ∧ Below w.heap.size w w' := by
 have hv : validS [(f, u)] = true := by unfold validS spansB spansB spanB; simp; omega
 go_enter Tryz.func63, Tryz.ntmps63
 go_wp2_with fail
 have hz : Row ((w.alloc (.cells #[.int .i64 f, .int .i64 u] 83)).alloc (.cells #[.int .i64 f, .int .i64 u] 83)) (w.heap.size + 1) ([(f, u)].flatMap spE.c ++ []) := Row.new' _ [.int .i64 f, .int .i64 u] _ (by simp)
 refine (spValid_any _ 1 1 [(f, u)] _ (by omega) (SlG.row hz rfl) true hv).mono ?_
 rintro e w1 ⟨rfl, hb1⟩
 have R_s_1 : Row w1 (w.heap.size) [.int .i64 (f), .int .i64 (u)] := by (repeat' (first | (with_reducible assumption) | (with_reducible refine Row.new' _ _ _ (by first | rfl | (simp; done) | omega)) | (with_reducible first | refine Row.alloc ?_ _ | refine Row.drew ?_ | refine Row.step ?_ (by assumption) | refine Row.drewN ?_ _) | (with_reducible refine Row.set2' ?_ _ _; first | exact ⟨_, _, by assumption⟩ | exact ⟨_, _, Row.alloc (by assumption) _⟩) | (with_reducible refine Row.other ?_ (by first | omega | (simp; omega)) _)))
 have c_s_0_1 := R_s_1.cell 0 rfl
 have c_s_1_1 := R_s_1.cell 1 rfl
 have l_s_1 := R_s_1.lt
 have R_o_1 : Row w1 (w.heap.size + 1) [.int .i64 (f), .int .i64 (u)] := by (repeat' (first | (with_reducible assumption) | (with_reducible refine Row.new' _ _ _ (by first | rfl | (simp; done) | omega)) | (with_reducible first | refine Row.alloc ?_ _ | refine Row.drew ?_ | refine Row.step ?_ (by assumption) | refine Row.drewN ?_ _) | (with_reducible refine Row.set2' ?_ _ _; first | exact ⟨_, _, by assumption⟩ | exact ⟨_, _, Row.alloc (by assumption) _⟩) | (with_reducible refine Row.other ?_ (by first | omega | (simp; omega)) _)))
 have c_o_0_1 := R_o_1.cell 0 rfl
 have c_o_1_1 := R_o_1.cell 1 rfl
 have l_o_1 := R_o_1.lt
 have HB1 : Below w.heap.size w w1 := by (repeat' (first | (with_reducible first | exact Below.refl _ _ | assumption | exact Bw.out (by assumption) | refine bw_alloc ?_ _ | refine bw_step ?_ (by assumption) | refine Below.alloc ?_ ?_ _ | refine Below.drew ?_ | refine below_drewN ?_ _ | refine Below.setCell ?_ ?_ _ | refine below_step ?_ (by assumption) ?_ | exact Nat.le_refl _) | omega | (simp; omega) | (simp; done)))
 go_wp2_with fail
 go_ret
 refine ⟨(by first | rfl | exact ret_bool (by first | rfl | (simp; done) | (simp; omega))), ?_⟩
 (repeat' (first | (with_reducible first | exact Below.refl _ _ | assumption | exact Bw.out (by assumption) | refine bw_alloc ?_ _ | refine bw_step ?_ (by assumption) | refine Below.alloc ?_ ?_ _ | refine Below.drew ?_ | refine below_drewN ?_ _ | refine Below.setCell ?_ ?_ _ | refine below_step ?_ (by assumption) ?_ | exact Nat.le_refl _) | omega | (simp; omega) | (simp; done)))
end Go.Proofs.YtlmajlfhjbhdpaaGreat
