/-
 Texts built as one: XPut, XEvH.
-/
import Derived.Test.YtcmodmchnokmgaaMC
import Derived.Test.YtcmodmchnokmgaaEvG
import Derived.Test.YtcmodmchnokmgaaTyF
namespace Go.Proofs.Ytcmodmchnokmgaa
section
set_option linter.unusedSimpArgs false
set_option linter.unusedVariables false
open Go.RowKit
/-- Cells stored one behind the other. -/
def puz (w : World) (b : Nat) : Nat → List Value → World
 | _, [] => w
 | i, v :: r => puz (w.setCell ⟨b, i, none⟩ v) b (i + 1) r
theorem Row.setAtZ {w : World} {b : Nat} {cs : List Value} (h : Row w b cs) (i : Nat) (v : Value) : Row (w.setCell ⟨b, i, none⟩ v) b (cs.set i v) := by
 obtain ⟨T, h⟩ := h
 exact ⟨T, by simp [World.setCell, Array.getElem?_modify, h]⟩
theorem Row.puz {b : Nat} : ∀ (vs : List Value) (i : Nat) {w : World} {cs : List Value}, Row w b cs → i + vs.length ≤ cs.length → Row (puz w b i vs) b (cs.take i ++ vs ++ cs.drop (i + vs.length))
 | [], i, w, cs, h, hl => by simpa [Go.Proofs.Ytcmodmchnokmgaa.puz] using h
 | v :: r, i, w, cs, h, hl => by
  have := Row.puz r (i + 1) (h.setAtZ i v) (by simp at hl ⊢; omega)
  unfold Go.Proofs.Ytcmodmchnokmgaa.puz
  simp at hl
  have e1 : (cs.set i v).take (i + 1) = cs.take i ++ [v] := by
   rw [List.take_succ_eq_append_getElem (by simp; omega), List.take_set_of_le (Nat.le_refl _)]
   simp
  have e2 : (cs.set i v).drop (i + 1 + r.length) = cs.drop (i + (v :: r).length) := by
   rw [List.drop_set_of_lt (by omega)]
   congr 1
   simp; omega
  rw [e1, e2] at this
  simpa using this
theorem Ch.puz {b : Nat} : ∀ (vs : List Value) (i : Nat) {A w : World}, Ch (fun k => k = b) A w → Ch (fun k => k = b) A (puz w b i vs)
 | [], _, _, _, h => h
 | v :: r, i, _, _, h => Ch.puz r (i + 1) (h.setCell (p := ⟨b, i, none⟩) rfl v)
theorem puz_all {w : World} {b : Nat} {cs : List Value} (h : Row w b cs) (vs : List Value) (hl : vs.length = cs.length) : Row (Go.Proofs.Ytcmodmchnokmgaa.puz w b 0 vs) b vs ∧ Ch (fun k => k = b) w (Go.Proofs.Ytcmodmchnokmgaa.puz w b 0 vs) := by
 refine ⟨?_, Ch.puz vs 0 (Ch.refl _ w)⟩
 have := h.puz vs 0 (by omega)
 simpa [hl] using this
end
section
set_option linter.unusedSimpArgs false
set_option linter.unusedVariables false
open Go.RowKit
set_option maxHeartbeats 800000 in
theorem rwithin_any (n lo hi : Int) (w : World) :
  Calls Try.prog 53 #[.int .i64 n, .int .i64 lo, .int .i64 hi] w fun e w' => e = .returned (.bool (inE n lo hi)) ∧ Below w.heap.size w w' := by
 by_cases h : lo ≤ n
 ·
  have e : inE n lo hi = decide (n ≤ hi) := by unfold inE; simp [h]
  rw [e]
  go_enter Try.func53, Try.ntmps53
  go_wp2_with fail
  go_ret
  exact ⟨rfl, Below.refl _ _⟩
 ·
  have e : inE n lo hi = false := by unfold inE; simp [h]
  rw [e]
  go_enter Try.func53, Try.ntmps53
  go_wp2_with fail
  go_ret
  exact ⟨rfl, Below.refl _ _⟩
theorem rwithin_p (n lo hi : Int) (p : Bool) (hp : inE n lo hi = p) (w : World) :
  Calls Try.prog 53 #[.int .i64 n, .int .i64 lo, .int .i64 hi] w fun e w' => e = .returned (.bool p) ∧ Below w.heap.size w w' := by
 subst hp; exact rwithin_any n lo hi w
set_option maxHeartbeats 800000 in
theorem weekday_any (n : Int) (w : World) :
  Calls Try.prog 80 #[.int .i64 n] w fun e w' => e = .returned (.tuple #[.int .i64 (dayI n), .int .i64 (dayE n)]) ∧ Below w.heap.size w w' := by
 by_cases h0 : n < 0
 ·
  have e1 : dayI n = 0 := by unfold dayI; rw [if_neg (by omega)]
  have e2 : dayE n = 1 := by unfold dayE; rw [if_neg (by omega)]
  rw [e1, e2]
  go_enter Try.func80, Try.ntmps80
  go_wp2_with fail
  go_returns
  exact ⟨rfl, Below.refl _ _⟩
 by_cases h1 : 366 < n
 ·
  have e1 : dayI n = 0 := by unfold dayI; rw [if_neg (by omega)]
  have e2 : dayE n = 1 := by unfold dayE; rw [if_neg (by omega)]
  rw [e1, e2]
  go_enter Try.func80, Try.ntmps80
  go_wp2_with fail
  go_returns
  exact ⟨rfl, Below.refl _ _⟩
 ·
  have e1 : dayI n = (n + 3).tmod 7 := by unfold dayI; rw [if_pos (by omega), Int.tmod_eq_emod_of_nonneg (by omega)]
  have e2 : dayE n = 0 := by unfold dayE; rw [if_pos (by omega)]
  rw [e1, e2]
  have h2 : 0 ≤ n := by omega
  have h3 : n ≤ 366 := by omega
  clear e1 e2
  go_enter Try.func80, Try.ntmps80
  go_wp2_with fail
  go_returns
  refine ⟨?_, Below.refl _ _⟩
  first | rfl | simp [Int.tmod_eq_emod_of_nonneg (show 0 ≤ n + 3 by omega)]
theorem dayI_range (n : Int) : 0 ≤ dayI n ∧ dayI n ≤ 6 := by
 unfold dayI
 split
 ·
  have := Int.emod_nonneg (n + 3) (show (7 : Int) ≠ 0 by decide)
  have := Int.emod_lt_of_pos (n + 3) (show (0 : Int) < 7 by decide)
  omega
 ·
  omega
/-- The cells of an ask. -/
def AskV.val (a : AskV) : Value := .agg #[.int .i64 a.k, .int .i64 a.fr, .int .i64 a.un, .int .i64 a.ps]
theorem askB_in {a : AskV} (h : askB a = true) : (0 ≤ a.fr ∧ a.fr < a.un ∧ a.un ≤ 366 ∧ a.un - a.fr ≤ 60) ∧ (1 ≤ a.k ∧ a.k ≤ 20) ∧ (1 ≤ a.ps ∧ a.ps ≤ 8) := by
 unfold askB inE at h
 simp only [Bool.and_eq_true, decide_eq_true_eq] at h
 omega
set_option maxRecDepth 100000 in
set_option maxHeartbeats 1600000 in
theorem right_any (k fr un ps : Int) (w : World) :
  Calls Try.prog 52 #[.agg #[.int .i64 k, .int .i64 fr, .int .i64 un, .int .i64 ps]] w fun e w' => e = .returned (.bool (askB ⟨k, fr, un, ps⟩)) ∧ Below w.heap.size w w' := by
 by_cases h1 : 0 ≤ fr
 ·
  by_cases h2 : fr < un
  ·
   by_cases h3 : un ≤ 366
   ·
    by_cases h4 : un - fr ≤ 60
    ·
     obtain ⟨p1, hp1⟩ : ∃ p, inE k 1 20 = p := ⟨_, rfl⟩
     obtain ⟨p2, hp2⟩ : ∃ p, inE ps 1 8 = p := ⟨_, rfl⟩
     have e : askB ⟨k, fr, un, ps⟩ = (p1 && p2) := by unfold askB; simp [h1, h2, h3, h4, hp1, hp2]
     rw [e]
     have HP1 := Lib.hid hp1
     have HP2 := Lib.hid hp2
     clear hp1 hp2 e
     go_enter Try.func52, Try.ntmps52
     go_wp2_with fail
     refine (rwithin_p k 1 20 p1 HP1.out _).mono ?_
     rintro e w1 ⟨rfl, hb1⟩
     have R_a_1 : Row w1 (w.heap.size) [.int .i64 (k), .int .i64 (fr), .int .i64 (un), .int .i64 (ps)] := by (repeat' (first | (with_reducible assumption) | (with_reducible refine Row.new' _ _ _ (by first | rfl | (simp; done) | omega)) | (with_reducible first | refine Row.alloc ?_ _ | refine Row.drew ?_ | refine Row.step ?_ (by assumption) | refine Row.drewN ?_ _) | (with_reducible refine Row.set2' ?_ _ _; first | exact ⟨_, _, by assumption⟩ | exact ⟨_, _, Row.alloc (by assumption) _⟩) | (with_reducible refine Row.other ?_ (by first | omega | (simp; omega)) _)))
     have c_a_0_1 := R_a_1.cell 0 rfl
     have c_a_1_1 := R_a_1.cell 1 rfl
     have c_a_2_1 := R_a_1.cell 2 rfl
     have c_a_3_1 := R_a_1.cell 3 rfl
     have l_a_1 := R_a_1.lt
     have HB1 : Below w.heap.size w w1 := by (repeat' (first | (with_reducible first | exact Below.refl _ _ | assumption | exact Bw.out (by assumption) | refine bw_alloc ?_ _ | refine bw_step ?_ (by assumption) | refine Below.alloc ?_ ?_ _ | refine Below.drew ?_ | refine below_drewN ?_ _ | refine Below.setCell ?_ ?_ _ | refine below_step ?_ (by assumption) ?_ | exact Nat.le_refl _) | omega | (simp; omega) | (simp; done)))
     cases p1 with
     | false =>
      go_wp2_with fail
      go_ret
      refine ⟨(by first | rfl | exact ret_bool (by first | rfl | (simp; done) | (simp; omega))), ?_⟩
      (repeat' (first | (with_reducible first | exact Below.refl _ _ | assumption | exact Bw.out (by assumption) | refine bw_alloc ?_ _ | refine bw_step ?_ (by assumption) | refine Below.alloc ?_ ?_ _ | refine Below.drew ?_ | refine below_drewN ?_ _ | refine Below.setCell ?_ ?_ _ | refine below_step ?_ (by assumption) ?_ | exact Nat.le_refl _) | omega | (simp; omega) | (simp; done)))
     | true =>
      go_wp2_with fail
      refine (rwithin_p ps 1 8 p2 HP2.out _).mono ?_
      rintro e w2 ⟨rfl, hb2⟩
      have R_a_2 : Row w2 (w.heap.size) [.int .i64 (k), .int .i64 (fr), .int .i64 (un), .int .i64 (ps)] := by (repeat' (first | (with_reducible assumption) | (with_reducible refine Row.new' _ _ _ (by first | rfl | (simp; done) | omega)) | (with_reducible first | refine Row.alloc ?_ _ | refine Row.drew ?_ | refine Row.step ?_ (by assumption) | refine Row.drewN ?_ _) | (with_reducible refine Row.set2' ?_ _ _; first | exact ⟨_, _, by assumption⟩ | exact ⟨_, _, Row.alloc (by assumption) _⟩) | (with_reducible refine Row.other ?_ (by first | omega | (simp; omega)) _)))
      have c_a_0_2 := R_a_2.cell 0 rfl
      have c_a_1_2 := R_a_2.cell 1 rfl
      have c_a_2_2 := R_a_2.cell 2 rfl
      have c_a_3_2 := R_a_2.cell 3 rfl
      have l_a_2 := R_a_2.lt
      have HB2 : Below w.heap.size w w2 := by (repeat' (first | (with_reducible first | exact Below.refl _ _ | assumption | exact Bw.out (by assumption) | refine bw_alloc ?_ _ | refine bw_step ?_ (by assumption) | refine Below.alloc ?_ ?_ _ | refine Below.drew ?_ | refine below_drewN ?_ _ | refine Below.setCell ?_ ?_ _ | refine below_step ?_ (by assumption) ?_ | exact Nat.le_refl _) | omega | (simp; omega) | (simp; done)))
      clear R_a_1 c_a_0_1 c_a_1_1 c_a_2_1 c_a_3_1 hb1 HB1
      go_wp2_with fail
      go_ret
      refine ⟨(by first | rfl | exact ret_bool (by first | rfl | (simp; done) | (simp; omega))), ?_⟩
      (repeat' (first | (with_reducible first | exact Below.refl _ _ | assumption | exact Bw.out (by assumption) | refine bw_alloc ?_ _ | refine bw_step ?_ (by assumption) | refine Below.alloc ?_ ?_ _ | refine Below.drew ?_ | refine below_drewN ?_ _ | refine Below.setCell ?_ ?_ _ | refine below_step ?_ (by assumption) ?_ | exact Nat.le_refl _) | omega | (simp; omega) | (simp; done)))
    ·
     have e : askB ⟨k, fr, un, ps⟩ = false := by unfold askB; simp [h4]
     rw [e]
     have h4' : 60 < un - fr := by omega
     clear h4
     go_enter Try.func52, Try.ntmps52
     go_wp2_with fail
     go_ret
     refine ⟨(by first | rfl | exact ret_bool (by first | rfl | (simp; done) | (simp; omega))), ?_⟩
     (repeat' (first | (with_reducible first | exact Below.refl _ _ | assumption | exact Bw.out (by assumption) | refine bw_alloc ?_ _ | refine bw_step ?_ (by assumption) | refine Below.alloc ?_ ?_ _ | refine Below.drew ?_ | refine below_drewN ?_ _ | refine Below.setCell ?_ ?_ _ | refine below_step ?_ (by assumption) ?_ | exact Nat.le_refl _) | omega | (simp; omega) | (simp; done)))
   ·
    have e : askB ⟨k, fr, un, ps⟩ = false := by unfold askB; simp [h3]
    rw [e]
    go_enter Try.func52, Try.ntmps52
    go_wp2_with fail
    go_ret
    refine ⟨(by first | rfl | exact ret_bool (by first | rfl | (simp; done) | (simp; omega))), ?_⟩
    (repeat' (first | (with_reducible first | exact Below.refl _ _ | assumption | exact Bw.out (by assumption) | refine bw_alloc ?_ _ | refine bw_step ?_ (by assumption) | refine Below.alloc ?_ ?_ _ | refine Below.drew ?_ | refine below_drewN ?_ _ | refine Below.setCell ?_ ?_ _ | refine below_step ?_ (by assumption) ?_ | exact Nat.le_refl _) | omega | (simp; omega) | (simp; done)))
  ·
   have e : askB ⟨k, fr, un, ps⟩ = false := by unfold askB; simp [h2]
   rw [e]
   go_enter Try.func52, Try.ntmps52
   go_wp2_with fail
   go_ret
   refine ⟨(by first | rfl | exact ret_bool (by first | rfl | (simp; done) | (simp; omega))), ?_⟩
   (repeat' (first | (with_reducible first | exact Below.refl _ _ | assumption | exact Bw.out (by assumption) | refine bw_alloc ?_ _ | refine bw_step ?_ (by assumption) | refine Below.alloc ?_ ?_ _ | refine Below.drew ?_ | refine below_drewN ?_ _ | refine Below.setCell ?_ ?_ _ | refine below_step ?_ (by assumption) ?_ | exact Nat.le_refl _) | omega | (simp; omega) | (simp; done)))
 ·
  have e : askB ⟨k, fr, un, ps⟩ = false := by unfold askB; simp [h1]
  rw [e]
  go_enter Try.func52, Try.ntmps52
  go_wp2_with fail
  go_ret
  refine ⟨(by first | rfl | exact ret_bool (by first | rfl | (simp; done) | (simp; omega))), ?_⟩
  (repeat' (first | (with_reducible first | exact Below.refl _ _ | assumption | exact Bw.out (by assumption) | refine bw_alloc ?_ _ | refine bw_step ?_ (by assumption) | refine Below.alloc ?_ ?_ _ | refine Below.drew ?_ | refine below_drewN ?_ _ | refine Below.setCell ?_ ?_ _ | refine below_step ?_ (by assumption) ?_ | exact Nat.le_refl _) | omega | (simp; omega) | (simp; done)))
theorem right_p (k fr un ps : Int) (p : Bool) (hp : askB ⟨k, fr, un, ps⟩ = p) (w : World) :
  Calls Try.prog 52 #[.agg #[.int .i64 k, .int .i64 fr, .int .i64 un, .int .i64 ps]] w fun e w' => e = .returned (.bool p) ∧ Below w.heap.size w w' := by
 subst hp; exact right_any k fr un ps w
set_option maxRecDepth 100000 in
set_option maxHeartbeats 1600000 in
theorem vars_any (k fr un ps nt : Int) (w : World) (h : askB ⟨k, fr, un, ps⟩ = true) (hn : fr ≤ nt ∧ nt < un) :
  Calls Try.prog 81 #[.agg #[.int .i64 k, .int .i64 fr, .int .i64 un, .int .i64 ps], .int .i64 nt] w fun e w' => e = .returned (.agg #[.int .i64 (un - fr), .int .i64 ps, .int .i64 (nt - fr), .int .i64 (dayI nt)]) ∧ Below w.heap.size w w' := by
 obtain ⟨⟨h1, h2, h3, h4⟩, _, _⟩ := askB_in h
 obtain ⟨n1, n2⟩ := hn
 simp only at h1 h2 h3 h4
 clear h
 go_enter Try.func81, Try.ntmps81
 go_wp2_with fail
 refine (weekday_any nt _).mono ?_
 rintro e w1 ⟨rfl, hb1⟩
 have R_a_1 : Row w1 (w.heap.size) [.int .i64 (k), .int .i64 (fr), .int .i64 (un), .int .i64 (ps)] := by (repeat' (first | (with_reducible assumption) | (with_reducible refine Row.new' _ _ _ (by first | rfl | (simp; done) | omega)) | (with_reducible first | refine Row.alloc ?_ _ | refine Row.drew ?_ | refine Row.step ?_ (by assumption) | refine Row.drewN ?_ _) | (with_reducible refine Row.set2' ?_ _ _; first | exact ⟨_, _, by assumption⟩ | exact ⟨_, _, Row.alloc (by assumption) _⟩) | (with_reducible refine Row.other ?_ (by first | omega | (simp; omega)) _)))
 have c_a_0_1 := R_a_1.cell 0 rfl
 have c_a_1_1 := R_a_1.cell 1 rfl
 have c_a_2_1 := R_a_1.cell 2 rfl
 have c_a_3_1 := R_a_1.cell 3 rfl
 have l_a_1 := R_a_1.lt
 have R_o_1 : Row w1 (w.heap.size + 1) [.int .i64 (0), .int .i64 (0), .int .i64 (0), .int .i64 (0)] := by (repeat' (first | (with_reducible assumption) | (with_reducible refine Row.new' _ _ _ (by first | rfl | (simp; done) | omega)) | (with_reducible first | refine Row.alloc ?_ _ | refine Row.drew ?_ | refine Row.step ?_ (by assumption) | refine Row.drewN ?_ _) | (with_reducible refine Row.set2' ?_ _ _; first | exact ⟨_, _, by assumption⟩ | exact ⟨_, _, Row.alloc (by assumption) _⟩) | (with_reducible refine Row.other ?_ (by first | omega | (simp; omega)) _)))
 have c_o_0_1 := R_o_1.cell 0 rfl
 have c_o_1_1 := R_o_1.cell 1 rfl
 have c_o_2_1 := R_o_1.cell 2 rfl
 have c_o_3_1 := R_o_1.cell 3 rfl
 have z_o_0_1 := R_o_1.frozen 0
 have z_o_1_1 := R_o_1.frozen 1
 have z_o_2_1 := R_o_1.frozen 2
 have z_o_3_1 := R_o_1.frozen 3
 have l_o_1 := R_o_1.lt
 have HB1 : Below w.heap.size w w1 := by (repeat' (first | (with_reducible first | exact Below.refl _ _ | assumption | exact Bw.out (by assumption) | refine bw_alloc ?_ _ | refine bw_step ?_ (by assumption) | refine Below.alloc ?_ ?_ _ | refine Below.drew ?_ | refine below_drewN ?_ _ | refine Below.setCell ?_ ?_ _ | refine below_step ?_ (by assumption) ?_ | exact Nat.le_refl _) | omega | (simp; omega) | (simp; done)))
 go_wp2_with fail
 have hP := puz_all R_o_1 [.int .i64 (un - fr), .int .i64 ps, .int .i64 (nt - fr), .int .i64 (dayI nt)] rfl
 simp only [Go.Proofs.Ytcmodmchnokmgaa.puz, Nat.reduceAdd, Nat.zero_add] at hP
 obtain ⟨RP, CP⟩ := hP
 have q0 := RP.cell 0 rfl
 have q1 := RP.cell 1 rfl
 have q2 := RP.cell 2 rfl
 have q3 := RP.cell 3 rfl
 refine bodyPost_ret (v := .agg #[.int .i64 (un - fr), .int .i64 ps, .int .i64 (nt - fr), .int .i64 (dayI nt)]) (by simp [results, Try.results81, go_sem, q0, q1, q2, q3]) rfl ⟨rfl, by (repeat' (first | (with_reducible first | exact Below.refl _ _ | assumption | exact Bw.out (by assumption) | refine bw_alloc ?_ _ | refine bw_step ?_ (by assumption) | refine Below.alloc ?_ ?_ _ | refine Below.drew ?_ | refine below_drewN ?_ _ | refine Below.setCell ?_ ?_ _ | refine below_step ?_ (by assumption) ?_ | exact Nat.le_refl _) | omega | (simp; omega) | (simp; done)))⟩
end
end Go.Proofs.Ytcmodmchnokmgaa
