/-
  GroupPicks: picking changes the nights of the span alone, each by 1, and not what is held on the day for any night; it is refused as full exactly if for one of them nothing is left of the limit.
  No condition: for every input.
-/
import Derived.Test.YtjmlkdopbiedaaaGrpZ
import Derived.Test.YtjmlkdopbiedaaaGrpW
import Derived.Deep.DeepCutAuto
namespace Go.Proofs.Ytjmlkdopbiedaaa
set_option linter.unusedSimpArgs false
set_option linter.unusedVariables false
open Go.ChangeShapes Go.WideShapes Go.ChangeAt Go.RowKit

theorem fullB_zero (L : Int) (a : Nat) (zs : List Int) : fullB L a a zs = false := fullB_of (fun i h1 h2 => by omega)
theorem fullB_succ {L : Int} {a k : Nat} {zs : List Int} (h1 : a ≤ k) (h2 : k < zs.length) : fullB L a (k + 1) zs = (fullB L a k zs || decide (L ≤ zs.getD k 0)) := by
  rw [Bool.eq_iff_iff, fullB_iff, Bool.or_eq_true, fullB_iff, decide_eq_true_iff]
  constructor
  · rintro ⟨i, g1, g2, g3, g4⟩
    by_cases e : i = k
    · subst e; exact Or.inr g4
    · exact Or.inl ⟨i, g1, g2, by omega, g4⟩
  · rintro (⟨i, g1, g2, g3, g4⟩ | h)
    · exact ⟨i, g1, g2, by omega, g4⟩
    · exact ⟨k, h2, h1, by omega, h⟩
theorem held_okP {B : Blk} {day n : Int} {j : Nat} (h : blkB B = true) (hd : inR day 0 366 = true) (hn : n = B.fr + j) (hj : j < B.picked.length) : heE B day n = 0 ∧ heV B day n = max (limI B day) (B.picked.getD j 0) := by
  have ok := blkB_ok h
  have hh : hasB B.fr B.un n = true := by have := ok.len; rw [hasB_iff]; omega
  have e : heE B day n = 0 := by unfold heE; rw [h, hd, hh]; rfl
  refine ⟨e, ?_⟩
  unfold heV
  rw [if_pos e, show (n - B.fr).toNat = j by omega]
theorem pick_held {B : Blk} {day s0 s1 n : Int} {j : Nat} (h : peE B day s0 s1 = 0) (hd : inR day 0 366 = true) (hn : n = B.fr + j) (hj : j < B.picked.length) :
    heE (pickB B s0 s1) day n = 0 ∧ heV (pickB B s0 s1) day n = heV B day n := by
  obtain ⟨hv, _, _, _, _, hf⟩ := peE_zero h
  obtain ⟨e1, v1⟩ := held_okP hv hd hn hj
  obtain ⟨e2, v2⟩ := held_okP (B := pickB B s0 s1) (pickB_ok h) hd hn (by rw [show (pickB B s0 s1).picked.length = B.picked.length from incR_length _ _ _]; exact hj)
  refine ⟨e2, ?_⟩
  rw [v1, v2, show limI (pickB B s0 s1) day = limI B day from rfl, show (pickB B s0 s1).picked.getD j 0 = _ from incR_getD hj]
  split
  · rename_i g
    have := fullB_false hf hj g.1 g.2
    omega
  · omega
theorem SlI.cellOf {w : World} {b off n : Nat} {zs : List Int} (h : SlI w (some ⟨b, off, none⟩) n zs) {i : Nat} (hi : i < n) : CellAt w b (off + i) (.int .i64 (zs.getD i 0)) := by
  obtain ⟨b', off', e, hc⟩ := h.2 i hi
  cases e
  exact hc
theorem g_Held_two (B : Blk) (q0 q1 : Int) (day n : Int) (ca : Option Addr) (cn cc : Nat) (pa : Option Addr) (pm pc : Nat) (w : World) (hin : BlkIn w (pickB B q0 q1) ca cn cc pa pm pc) (V E : Int) (hV : heV (pickB B q0 q1) day n = V) (hE : heE (pickB B q0 q1) day n = E) :
    Calls Try.prog 11 #[.agg #[.int .i64 B.id, .int .i64 B.kind, .int .i64 B.rooms, .int .i64 B.fr, .int .i64 B.un, .slice ca cn cc, .int .i64 B.pn, .int .i64 B.pd, .int .i64 B.fee, .slice pa pm pc], .int .i64 day, .int .i64 n] w fun e w' => e = .returned (.tuple #[.int .i64 V, .int .i64 E]) ∧ Below w.heap.size w w' :=
  g_Held_any (pickB B q0 q1) day n ca cn cc pa pm pc w hin V E hV hE

set_option maxRecDepth 100000 in
set_option maxHeartbeats 12800000 in
theorem gpk_walk (B : Blk) (ca : Option Addr) (cn cc : Nat) (pa : Option Addr) (pm pc : Nat) (day s0 s1 q : Int) (_ : BlkWf B) (_ : (Lit.int .i64 day).wf = true) (ws0 : (Lit.int .i64 s0).wf = true) (ws1 : (Lit.int .i64 s1).wf = true) (wq : (Lit.int .u16 q).wf = true) (w : World) (K : BlkIn w B ca cn cc pa pm pc) :
    Calls Try.prog 6 #[.agg #[.int .i64 B.id, .int .i64 B.kind, .int .i64 B.rooms, .int .i64 B.fr, .int .i64 B.un, .slice ca cn cc, .int .i64 B.pn, .int .i64 B.pd, .int .i64 B.fee, .slice pa pm pc], .int .i64 day, .agg #[.int .i64 s0, .int .i64 s1], .int .u16 q] w fun e w' => e = .returned (.bool true) ∧ Below w.heap.size w w' := by
  have hq := bd_u16 wq
  clear wq
  cases hu : usaB B cn pm day with
  | false =>
    have HU := Lib.hid hu
    clear hu
    go_enter Try.func6, Try.ntmps6
    go_wp2_with fail
    refine (head_any _).mono ?_
    rintro e w1 ⟨rfl, hb1⟩
    have R_b_1 : Row w1 (w.heap.size) [.int .i64 B.id, .int .i64 B.kind, .int .i64 B.rooms, .int .i64 B.fr, .int .i64 B.un, .slice ca cn cc, .int .i64 B.pn, .int .i64 B.pd, .int .i64 B.fee, .slice pa pm pc] := by (repeat' (first | (with_reducible assumption) | (with_reducible refine Row.new' _ _ _ (by first | rfl | (simp; done) | omega)) | (with_reducible refine Row.alloc ?_ _) | (with_reducible refine Row.drew ?_) | (with_reducible refine Row.drewN ?_ _) | (with_reducible refine Row.step ?_ (by with_reducible assumption)) | (with_reducible refine Row.set2' ?_ _ _; first | exact ⟨_, _, by with_reducible assumption⟩ | exact ⟨_, _, Row.alloc (by with_reducible assumption) _⟩ | exact ⟨_, _, Row.alloc (Row.alloc (by with_reducible assumption) _) _⟩) | (with_reducible refine Row.other ?_ (by first | omega | (simp; done) | (simp; omega)) _)))
    have c_b_0_1 := R_b_1.cell 0 rfl
    have c_b_1_1 := R_b_1.cell 1 rfl
    have c_b_2_1 := R_b_1.cell 2 rfl
    have c_b_3_1 := R_b_1.cell 3 rfl
    have c_b_4_1 := R_b_1.cell 4 rfl
    have c_b_5_1 := R_b_1.cell 5 rfl
    have c_b_6_1 := R_b_1.cell 6 rfl
    have c_b_7_1 := R_b_1.cell 7 rfl
    have c_b_8_1 := R_b_1.cell 8 rfl
    have c_b_9_1 := R_b_1.cell 9 rfl
    have l_b_1 := R_b_1.lt
    have R_s_1 : Row w1 (w.heap.size + 1) [.int .i64 (s0), .int .i64 (s1)] := by (repeat' (first | (with_reducible assumption) | (with_reducible refine Row.new' _ _ _ (by first | rfl | (simp; done) | omega)) | (with_reducible refine Row.alloc ?_ _) | (with_reducible refine Row.drew ?_) | (with_reducible refine Row.drewN ?_ _) | (with_reducible refine Row.step ?_ (by with_reducible assumption)) | (with_reducible refine Row.set2' ?_ _ _; first | exact ⟨_, _, by with_reducible assumption⟩ | exact ⟨_, _, Row.alloc (by with_reducible assumption) _⟩ | exact ⟨_, _, Row.alloc (Row.alloc (by with_reducible assumption) _) _⟩) | (with_reducible refine Row.other ?_ (by first | omega | (simp; done) | (simp; omega)) _)))
    have c_s_0_1 := R_s_1.cell 0 rfl
    have c_s_1_1 := R_s_1.cell 1 rfl
    have l_s_1 := R_s_1.lt
    replace K := K.step (show Below w.heap.size w w1 by (repeat' (first | (with_reducible exact Below.refl _ _) | (with_reducible assumption) | (with_reducible exact Bw.out (by with_reducible assumption)) | (with_reducible refine bw_alloc ?_ _) | (with_reducible refine bw_step ?_ (by with_reducible assumption)) | (with_reducible refine Below.alloc ?_ ?_ _) | (with_reducible refine Below.drew ?_) | (with_reducible refine below_drewN ?_ _) | (with_reducible refine Below.setCell ?_ ?_ _) | (with_reducible refine below_step ?_ (by with_reducible assumption) ?_) | (with_reducible exact Nat.le_refl _) | omega | (simp; omega) | (simp; done))))
    have HB1 : Below w.heap.size w w1 := by (repeat' (first | (with_reducible exact Below.refl _ _) | (with_reducible assumption) | (with_reducible exact Bw.out (by with_reducible assumption)) | (with_reducible refine bw_alloc ?_ _) | (with_reducible refine bw_step ?_ (by with_reducible assumption)) | (with_reducible refine Below.alloc ?_ ?_ _) | (with_reducible refine Below.drew ?_) | (with_reducible refine below_drewN ?_ _) | (with_reducible refine Below.setCell ?_ ?_ _) | (with_reducible refine below_step ?_ (by with_reducible assumption) ?_) | (with_reducible exact Nat.le_refl _) | omega | (simp; omega) | (simp; done)))
    go_wp2_with fail
    refine (l_usable B day _ _ _ _ _ _ _ (K.step (by (repeat' (first | (with_reducible exact Below.refl _ _) | (with_reducible assumption) | (with_reducible exact Bw.out (by with_reducible assumption)) | (with_reducible refine bw_alloc ?_ _) | (with_reducible refine bw_step ?_ (by with_reducible assumption)) | (with_reducible refine Below.alloc ?_ ?_ _) | (with_reducible refine Below.drew ?_) | (with_reducible refine below_drewN ?_ _) | (with_reducible refine Below.setCell ?_ ?_ _) | (with_reducible refine below_step ?_ (by with_reducible assumption) ?_) | (with_reducible exact Nat.le_refl _) | omega | (simp; omega) | (simp; done))))) false HU.out).mono ?_
    rintro e w2 ⟨rfl, hb2⟩
    have R_b_2 : Row w2 (w.heap.size) [.int .i64 B.id, .int .i64 B.kind, .int .i64 B.rooms, .int .i64 B.fr, .int .i64 B.un, .slice ca cn cc, .int .i64 B.pn, .int .i64 B.pd, .int .i64 B.fee, .slice pa pm pc] := by (repeat' (first | (with_reducible assumption) | (with_reducible refine Row.new' _ _ _ (by first | rfl | (simp; done) | omega)) | (with_reducible refine Row.alloc ?_ _) | (with_reducible refine Row.drew ?_) | (with_reducible refine Row.drewN ?_ _) | (with_reducible refine Row.step ?_ (by with_reducible assumption)) | (with_reducible refine Row.set2' ?_ _ _; first | exact ⟨_, _, by with_reducible assumption⟩ | exact ⟨_, _, Row.alloc (by with_reducible assumption) _⟩ | exact ⟨_, _, Row.alloc (Row.alloc (by with_reducible assumption) _) _⟩) | (with_reducible refine Row.other ?_ (by first | omega | (simp; done) | (simp; omega)) _)))
    have c_b_0_2 := R_b_2.cell 0 rfl
    have c_b_1_2 := R_b_2.cell 1 rfl
    have c_b_2_2 := R_b_2.cell 2 rfl
    have c_b_3_2 := R_b_2.cell 3 rfl
    have c_b_4_2 := R_b_2.cell 4 rfl
    have c_b_5_2 := R_b_2.cell 5 rfl
    have c_b_6_2 := R_b_2.cell 6 rfl
    have c_b_7_2 := R_b_2.cell 7 rfl
    have c_b_8_2 := R_b_2.cell 8 rfl
    have c_b_9_2 := R_b_2.cell 9 rfl
    have l_b_2 := R_b_2.lt
    have R_s_2 : Row w2 (w.heap.size + 1) [.int .i64 (s0), .int .i64 (s1)] := by (repeat' (first | (with_reducible assumption) | (with_reducible refine Row.new' _ _ _ (by first | rfl | (simp; done) | omega)) | (with_reducible refine Row.alloc ?_ _) | (with_reducible refine Row.drew ?_) | (with_reducible refine Row.drewN ?_ _) | (with_reducible refine Row.step ?_ (by with_reducible assumption)) | (with_reducible refine Row.set2' ?_ _ _; first | exact ⟨_, _, by with_reducible assumption⟩ | exact ⟨_, _, Row.alloc (by with_reducible assumption) _⟩ | exact ⟨_, _, Row.alloc (Row.alloc (by with_reducible assumption) _) _⟩) | (with_reducible refine Row.other ?_ (by first | omega | (simp; done) | (simp; omega)) _)))
    have c_s_0_2 := R_s_2.cell 0 rfl
    have c_s_1_2 := R_s_2.cell 1 rfl
    have l_s_2 := R_s_2.lt
    replace K := K.step (show Below w1.heap.size w1 w2 by (repeat' (first | (with_reducible exact Below.refl _ _) | (with_reducible assumption) | (with_reducible exact Bw.out (by with_reducible assumption)) | (with_reducible refine bw_alloc ?_ _) | (with_reducible refine bw_step ?_ (by with_reducible assumption)) | (with_reducible refine Below.alloc ?_ ?_ _) | (with_reducible refine Below.drew ?_) | (with_reducible refine below_drewN ?_ _) | (with_reducible refine Below.setCell ?_ ?_ _) | (with_reducible refine below_step ?_ (by with_reducible assumption) ?_) | (with_reducible exact Nat.le_refl _) | omega | (simp; omega) | (simp; done))))
    have HB2 : Below w.heap.size w w2 := by (repeat' (first | (with_reducible exact Below.refl _ _) | (with_reducible assumption) | (with_reducible exact Bw.out (by with_reducible assumption)) | (with_reducible refine bw_alloc ?_ _) | (with_reducible refine bw_step ?_ (by with_reducible assumption)) | (with_reducible refine Below.alloc ?_ ?_ _) | (with_reducible refine Below.drew ?_) | (with_reducible refine below_drewN ?_ _) | (with_reducible refine Below.setCell ?_ ?_ _) | (with_reducible refine below_step ?_ (by with_reducible assumption) ?_) | (with_reducible exact Nat.le_refl _) | omega | (simp; omega) | (simp; done)))
    clear R_b_1 c_b_0_1 c_b_1_1 c_b_2_1 c_b_3_1 c_b_4_1 c_b_5_1 c_b_6_1 c_b_7_1 c_b_8_1 c_b_9_1 R_s_1 c_s_0_1 c_s_1_1 hb1 HB1
    go_wp2_with fail
    go_ret
    refine ⟨(by first | rfl | exact ret_bool (by first | rfl | (simp; done) | (simp; omega))), ?_⟩
    (repeat' (first | (with_reducible exact Below.refl _ _) | (with_reducible assumption) | (with_reducible exact Bw.out (by with_reducible assumption)) | (with_reducible refine bw_alloc ?_ _) | (with_reducible refine bw_step ?_ (by with_reducible assumption)) | (with_reducible refine Below.alloc ?_ ?_ _) | (with_reducible refine Below.drew ?_) | (with_reducible refine below_drewN ?_ _) | (with_reducible refine Below.setCell ?_ ?_ _) | (with_reducible refine below_step ?_ (by with_reducible assumption) ?_) | (with_reducible exact Nat.le_refl _) | omega | (simp; omega) | (simp; done)))
  | true =>
    have HU := Lib.hid hu
    obtain ⟨hv, d0, d1, hd⟩ := usaB_iff hu
    have ok := blkB_ok hv
    have o1 := ok.fr
    have o2 := ok.lt
    have o3 := ok.un
    have hpl : B.picked.length = pm := K.picked.1
    have hpm : 0 < pm := by have := ok.len; rw [hpl] at this; omega
    obtain ⟨bb, off, hpa, _, _⟩ := K.picked.at hpm
    subst hpa
    clear hu
    by_cases h1 : s1 ≤ s0
    ·
      go_enter Try.func6, Try.ntmps6
      go_wp2_with fail
      refine (head_any _).mono ?_
      rintro e w1 ⟨rfl, hb1⟩
      have R_b_1 : Row w1 (w.heap.size) [.int .i64 B.id, .int .i64 B.kind, .int .i64 B.rooms, .int .i64 B.fr, .int .i64 B.un, .slice ca cn cc, .int .i64 B.pn, .int .i64 B.pd, .int .i64 B.fee, .slice (some ⟨bb, off, none⟩) pm pc] := by (repeat' (first | (with_reducible assumption) | (with_reducible refine Row.new' _ _ _ (by first | rfl | (simp; done) | omega)) | (with_reducible refine Row.alloc ?_ _) | (with_reducible refine Row.drew ?_) | (with_reducible refine Row.drewN ?_ _) | (with_reducible refine Row.step ?_ (by with_reducible assumption)) | (with_reducible refine Row.set2' ?_ _ _; first | exact ⟨_, _, by with_reducible assumption⟩ | exact ⟨_, _, Row.alloc (by with_reducible assumption) _⟩ | exact ⟨_, _, Row.alloc (Row.alloc (by with_reducible assumption) _) _⟩) | (with_reducible refine Row.other ?_ (by first | omega | (simp; done) | (simp; omega)) _)))
      have c_b_0_1 := R_b_1.cell 0 rfl
      have c_b_1_1 := R_b_1.cell 1 rfl
      have c_b_2_1 := R_b_1.cell 2 rfl
      have c_b_3_1 := R_b_1.cell 3 rfl
      have c_b_4_1 := R_b_1.cell 4 rfl
      have c_b_5_1 := R_b_1.cell 5 rfl
      have c_b_6_1 := R_b_1.cell 6 rfl
      have c_b_7_1 := R_b_1.cell 7 rfl
      have c_b_8_1 := R_b_1.cell 8 rfl
      have c_b_9_1 := R_b_1.cell 9 rfl
      have l_b_1 := R_b_1.lt
      have R_s_1 : Row w1 (w.heap.size + 1) [.int .i64 (s0), .int .i64 (s1)] := by (repeat' (first | (with_reducible assumption) | (with_reducible refine Row.new' _ _ _ (by first | rfl | (simp; done) | omega)) | (with_reducible refine Row.alloc ?_ _) | (with_reducible refine Row.drew ?_) | (with_reducible refine Row.drewN ?_ _) | (with_reducible refine Row.step ?_ (by with_reducible assumption)) | (with_reducible refine Row.set2' ?_ _ _; first | exact ⟨_, _, by with_reducible assumption⟩ | exact ⟨_, _, Row.alloc (by with_reducible assumption) _⟩ | exact ⟨_, _, Row.alloc (Row.alloc (by with_reducible assumption) _) _⟩) | (with_reducible refine Row.other ?_ (by first | omega | (simp; done) | (simp; omega)) _)))
      have c_s_0_1 := R_s_1.cell 0 rfl
      have c_s_1_1 := R_s_1.cell 1 rfl
      have l_s_1 := R_s_1.lt
      replace K := K.step (show Below w.heap.size w w1 by (repeat' (first | (with_reducible exact Below.refl _ _) | (with_reducible assumption) | (with_reducible exact Bw.out (by with_reducible assumption)) | (with_reducible refine bw_alloc ?_ _) | (with_reducible refine bw_step ?_ (by with_reducible assumption)) | (with_reducible refine Below.alloc ?_ ?_ _) | (with_reducible refine Below.drew ?_) | (with_reducible refine below_drewN ?_ _) | (with_reducible refine Below.setCell ?_ ?_ _) | (with_reducible refine below_step ?_ (by with_reducible assumption) ?_) | (with_reducible exact Nat.le_refl _) | omega | (simp; omega) | (simp; done))))
      have HB1 : Below w.heap.size w w1 := by (repeat' (first | (with_reducible exact Below.refl _ _) | (with_reducible assumption) | (with_reducible exact Bw.out (by with_reducible assumption)) | (with_reducible refine bw_alloc ?_ _) | (with_reducible refine bw_step ?_ (by with_reducible assumption)) | (with_reducible refine Below.alloc ?_ ?_ _) | (with_reducible refine Below.drew ?_) | (with_reducible refine below_drewN ?_ _) | (with_reducible refine Below.setCell ?_ ?_ _) | (with_reducible refine below_step ?_ (by with_reducible assumption) ?_) | (with_reducible exact Nat.le_refl _) | omega | (simp; omega) | (simp; done)))
      go_wp2_with fail
      refine (l_usable B day _ _ _ _ _ _ _ (K.step (by (repeat' (first | (with_reducible exact Below.refl _ _) | (with_reducible assumption) | (with_reducible exact Bw.out (by with_reducible assumption)) | (with_reducible refine bw_alloc ?_ _) | (with_reducible refine bw_step ?_ (by with_reducible assumption)) | (with_reducible refine Below.alloc ?_ ?_ _) | (with_reducible refine Below.drew ?_) | (with_reducible refine below_drewN ?_ _) | (with_reducible refine Below.setCell ?_ ?_ _) | (with_reducible refine below_step ?_ (by with_reducible assumption) ?_) | (with_reducible exact Nat.le_refl _) | omega | (simp; omega) | (simp; done))))) true HU.out).mono ?_
      rintro e w2 ⟨rfl, hb2⟩
      have R_b_2 : Row w2 (w.heap.size) [.int .i64 B.id, .int .i64 B.kind, .int .i64 B.rooms, .int .i64 B.fr, .int .i64 B.un, .slice ca cn cc, .int .i64 B.pn, .int .i64 B.pd, .int .i64 B.fee, .slice (some ⟨bb, off, none⟩) pm pc] := by (repeat' (first | (with_reducible assumption) | (with_reducible refine Row.new' _ _ _ (by first | rfl | (simp; done) | omega)) | (with_reducible refine Row.alloc ?_ _) | (with_reducible refine Row.drew ?_) | (with_reducible refine Row.drewN ?_ _) | (with_reducible refine Row.step ?_ (by with_reducible assumption)) | (with_reducible refine Row.set2' ?_ _ _; first | exact ⟨_, _, by with_reducible assumption⟩ | exact ⟨_, _, Row.alloc (by with_reducible assumption) _⟩ | exact ⟨_, _, Row.alloc (Row.alloc (by with_reducible assumption) _) _⟩) | (with_reducible refine Row.other ?_ (by first | omega | (simp; done) | (simp; omega)) _)))
      have c_b_0_2 := R_b_2.cell 0 rfl
      have c_b_1_2 := R_b_2.cell 1 rfl
      have c_b_2_2 := R_b_2.cell 2 rfl
      have c_b_3_2 := R_b_2.cell 3 rfl
      have c_b_4_2 := R_b_2.cell 4 rfl
      have c_b_5_2 := R_b_2.cell 5 rfl
      have c_b_6_2 := R_b_2.cell 6 rfl
      have c_b_7_2 := R_b_2.cell 7 rfl
      have c_b_8_2 := R_b_2.cell 8 rfl
      have c_b_9_2 := R_b_2.cell 9 rfl
      have l_b_2 := R_b_2.lt
      have R_s_2 : Row w2 (w.heap.size + 1) [.int .i64 (s0), .int .i64 (s1)] := by (repeat' (first | (with_reducible assumption) | (with_reducible refine Row.new' _ _ _ (by first | rfl | (simp; done) | omega)) | (with_reducible refine Row.alloc ?_ _) | (with_reducible refine Row.drew ?_) | (with_reducible refine Row.drewN ?_ _) | (with_reducible refine Row.step ?_ (by with_reducible assumption)) | (with_reducible refine Row.set2' ?_ _ _; first | exact ⟨_, _, by with_reducible assumption⟩ | exact ⟨_, _, Row.alloc (by with_reducible assumption) _⟩ | exact ⟨_, _, Row.alloc (Row.alloc (by with_reducible assumption) _) _⟩) | (with_reducible refine Row.other ?_ (by first | omega | (simp; done) | (simp; omega)) _)))
      have c_s_0_2 := R_s_2.cell 0 rfl
      have c_s_1_2 := R_s_2.cell 1 rfl
      have l_s_2 := R_s_2.lt
      replace K := K.step (show Below w1.heap.size w1 w2 by (repeat' (first | (with_reducible exact Below.refl _ _) | (with_reducible assumption) | (with_reducible exact Bw.out (by with_reducible assumption)) | (with_reducible refine bw_alloc ?_ _) | (with_reducible refine bw_step ?_ (by with_reducible assumption)) | (with_reducible refine Below.alloc ?_ ?_ _) | (with_reducible refine Below.drew ?_) | (with_reducible refine below_drewN ?_ _) | (with_reducible refine Below.setCell ?_ ?_ _) | (with_reducible refine below_step ?_ (by with_reducible assumption) ?_) | (with_reducible exact Nat.le_refl _) | omega | (simp; omega) | (simp; done))))
      have HB2 : Below w.heap.size w w2 := by (repeat' (first | (with_reducible exact Below.refl _ _) | (with_reducible assumption) | (with_reducible exact Bw.out (by with_reducible assumption)) | (with_reducible refine bw_alloc ?_ _) | (with_reducible refine bw_step ?_ (by with_reducible assumption)) | (with_reducible refine Below.alloc ?_ ?_ _) | (with_reducible refine Below.drew ?_) | (with_reducible refine below_drewN ?_ _) | (with_reducible refine Below.setCell ?_ ?_ _) | (with_reducible refine below_step ?_ (by with_reducible assumption) ?_) | (with_reducible exact Nat.le_refl _) | omega | (simp; omega) | (simp; done)))
      clear R_b_1 c_b_0_1 c_b_1_1 c_b_2_1 c_b_3_1 c_b_4_1 c_b_5_1 c_b_6_1 c_b_7_1 c_b_8_1 c_b_9_1 R_s_1 c_s_0_1 c_s_1_1 hb1 HB1
      go_wp2_with fail
      go_ret
      refine ⟨(by first | rfl | exact ret_bool (by first | rfl | (simp; done) | (simp; omega))), ?_⟩
      (repeat' (first | (with_reducible exact Below.refl _ _) | (with_reducible assumption) | (with_reducible exact Bw.out (by with_reducible assumption)) | (with_reducible refine bw_alloc ?_ _) | (with_reducible refine bw_step ?_ (by with_reducible assumption)) | (with_reducible refine Below.alloc ?_ ?_ _) | (with_reducible refine Below.drew ?_) | (with_reducible refine below_drewN ?_ _) | (with_reducible refine Below.setCell ?_ ?_ _) | (with_reducible refine below_step ?_ (by with_reducible assumption) ?_) | (with_reducible exact Nat.le_refl _) | omega | (simp; omega) | (simp; done)))
    by_cases h2 : s0 < B.fr
    · have h1' : s0 < s1 := by omega
      clear h1
      go_enter Try.func6, Try.ntmps6
      go_wp2_with fail
      refine (head_any _).mono ?_
      rintro e w1 ⟨rfl, hb1⟩
      have R_b_1 : Row w1 (w.heap.size) [.int .i64 B.id, .int .i64 B.kind, .int .i64 B.rooms, .int .i64 B.fr, .int .i64 B.un, .slice ca cn cc, .int .i64 B.pn, .int .i64 B.pd, .int .i64 B.fee, .slice (some ⟨bb, off, none⟩) pm pc] := by (repeat' (first | (with_reducible assumption) | (with_reducible refine Row.new' _ _ _ (by first | rfl | (simp; done) | omega)) | (with_reducible refine Row.alloc ?_ _) | (with_reducible refine Row.drew ?_) | (with_reducible refine Row.drewN ?_ _) | (with_reducible refine Row.step ?_ (by with_reducible assumption)) | (with_reducible refine Row.set2' ?_ _ _; first | exact ⟨_, _, by with_reducible assumption⟩ | exact ⟨_, _, Row.alloc (by with_reducible assumption) _⟩ | exact ⟨_, _, Row.alloc (Row.alloc (by with_reducible assumption) _) _⟩) | (with_reducible refine Row.other ?_ (by first | omega | (simp; done) | (simp; omega)) _)))
      have c_b_0_1 := R_b_1.cell 0 rfl
      have c_b_1_1 := R_b_1.cell 1 rfl
      have c_b_2_1 := R_b_1.cell 2 rfl
      have c_b_3_1 := R_b_1.cell 3 rfl
      have c_b_4_1 := R_b_1.cell 4 rfl
      have c_b_5_1 := R_b_1.cell 5 rfl
      have c_b_6_1 := R_b_1.cell 6 rfl
      have c_b_7_1 := R_b_1.cell 7 rfl
      have c_b_8_1 := R_b_1.cell 8 rfl
      have c_b_9_1 := R_b_1.cell 9 rfl
      have l_b_1 := R_b_1.lt
      have R_s_1 : Row w1 (w.heap.size + 1) [.int .i64 (s0), .int .i64 (s1)] := by (repeat' (first | (with_reducible assumption) | (with_reducible refine Row.new' _ _ _ (by first | rfl | (simp; done) | omega)) | (with_reducible refine Row.alloc ?_ _) | (with_reducible refine Row.drew ?_) | (with_reducible refine Row.drewN ?_ _) | (with_reducible refine Row.step ?_ (by with_reducible assumption)) | (with_reducible refine Row.set2' ?_ _ _; first | exact ⟨_, _, by with_reducible assumption⟩ | exact ⟨_, _, Row.alloc (by with_reducible assumption) _⟩ | exact ⟨_, _, Row.alloc (Row.alloc (by with_reducible assumption) _) _⟩) | (with_reducible refine Row.other ?_ (by first | omega | (simp; done) | (simp; omega)) _)))
      have c_s_0_1 := R_s_1.cell 0 rfl
      have c_s_1_1 := R_s_1.cell 1 rfl
      have l_s_1 := R_s_1.lt
      replace K := K.step (show Below w.heap.size w w1 by (repeat' (first | (with_reducible exact Below.refl _ _) | (with_reducible assumption) | (with_reducible exact Bw.out (by with_reducible assumption)) | (with_reducible refine bw_alloc ?_ _) | (with_reducible refine bw_step ?_ (by with_reducible assumption)) | (with_reducible refine Below.alloc ?_ ?_ _) | (with_reducible refine Below.drew ?_) | (with_reducible refine below_drewN ?_ _) | (with_reducible refine Below.setCell ?_ ?_ _) | (with_reducible refine below_step ?_ (by with_reducible assumption) ?_) | (with_reducible exact Nat.le_refl _) | omega | (simp; omega) | (simp; done))))
      have HB1 : Below w.heap.size w w1 := by (repeat' (first | (with_reducible exact Below.refl _ _) | (with_reducible assumption) | (with_reducible exact Bw.out (by with_reducible assumption)) | (with_reducible refine bw_alloc ?_ _) | (with_reducible refine bw_step ?_ (by with_reducible assumption)) | (with_reducible refine Below.alloc ?_ ?_ _) | (with_reducible refine Below.drew ?_) | (with_reducible refine below_drewN ?_ _) | (with_reducible refine Below.setCell ?_ ?_ _) | (with_reducible refine below_step ?_ (by with_reducible assumption) ?_) | (with_reducible exact Nat.le_refl _) | omega | (simp; omega) | (simp; done)))
      go_wp2_with fail
      refine (l_usable B day _ _ _ _ _ _ _ (K.step (by (repeat' (first | (with_reducible exact Below.refl _ _) | (with_reducible assumption) | (with_reducible exact Bw.out (by with_reducible assumption)) | (with_reducible refine bw_alloc ?_ _) | (with_reducible refine bw_step ?_ (by with_reducible assumption)) | (with_reducible refine Below.alloc ?_ ?_ _) | (with_reducible refine Below.drew ?_) | (with_reducible refine below_drewN ?_ _) | (with_reducible refine Below.setCell ?_ ?_ _) | (with_reducible refine below_step ?_ (by with_reducible assumption) ?_) | (with_reducible exact Nat.le_refl _) | omega | (simp; omega) | (simp; done))))) true HU.out).mono ?_
      rintro e w2 ⟨rfl, hb2⟩
      have R_b_2 : Row w2 (w.heap.size) [.int .i64 B.id, .int .i64 B.kind, .int .i64 B.rooms, .int .i64 B.fr, .int .i64 B.un, .slice ca cn cc, .int .i64 B.pn, .int .i64 B.pd, .int .i64 B.fee, .slice (some ⟨bb, off, none⟩) pm pc] := by (repeat' (first | (with_reducible assumption) | (with_reducible refine Row.new' _ _ _ (by first | rfl | (simp; done) | omega)) | (with_reducible refine Row.alloc ?_ _) | (with_reducible refine Row.drew ?_) | (with_reducible refine Row.drewN ?_ _) | (with_reducible refine Row.step ?_ (by with_reducible assumption)) | (with_reducible refine Row.set2' ?_ _ _; first | exact ⟨_, _, by with_reducible assumption⟩ | exact ⟨_, _, Row.alloc (by with_reducible assumption) _⟩ | exact ⟨_, _, Row.alloc (Row.alloc (by with_reducible assumption) _) _⟩) | (with_reducible refine Row.other ?_ (by first | omega | (simp; done) | (simp; omega)) _)))
      have c_b_0_2 := R_b_2.cell 0 rfl
      have c_b_1_2 := R_b_2.cell 1 rfl
      have c_b_2_2 := R_b_2.cell 2 rfl
      have c_b_3_2 := R_b_2.cell 3 rfl
      have c_b_4_2 := R_b_2.cell 4 rfl
      have c_b_5_2 := R_b_2.cell 5 rfl
      have c_b_6_2 := R_b_2.cell 6 rfl
      have c_b_7_2 := R_b_2.cell 7 rfl
      have c_b_8_2 := R_b_2.cell 8 rfl
      have c_b_9_2 := R_b_2.cell 9 rfl
      have l_b_2 := R_b_2.lt
      have R_s_2 : Row w2 (w.heap.size + 1) [.int .i64 (s0), .int .i64 (s1)] := by (repeat' (first | (with_reducible assumption) | (with_reducible refine Row.new' _ _ _ (by first | rfl | (simp; done) | omega)) | (with_reducible refine Row.alloc ?_ _) | (with_reducible refine Row.drew ?_) | (with_reducible refine Row.drewN ?_ _) | (with_reducible refine Row.step ?_ (by with_reducible assumption)) | (with_reducible refine Row.set2' ?_ _ _; first | exact ⟨_, _, by with_reducible assumption⟩ | exact ⟨_, _, Row.alloc (by with_reducible assumption) _⟩ | exact ⟨_, _, Row.alloc (Row.alloc (by with_reducible assumption) _) _⟩) | (with_reducible refine Row.other ?_ (by first | omega | (simp; done) | (simp; omega)) _)))
      have c_s_0_2 := R_s_2.cell 0 rfl
      have c_s_1_2 := R_s_2.cell 1 rfl
      have l_s_2 := R_s_2.lt
      replace K := K.step (show Below w1.heap.size w1 w2 by (repeat' (first | (with_reducible exact Below.refl _ _) | (with_reducible assumption) | (with_reducible exact Bw.out (by with_reducible assumption)) | (with_reducible refine bw_alloc ?_ _) | (with_reducible refine bw_step ?_ (by with_reducible assumption)) | (with_reducible refine Below.alloc ?_ ?_ _) | (with_reducible refine Below.drew ?_) | (with_reducible refine below_drewN ?_ _) | (with_reducible refine Below.setCell ?_ ?_ _) | (with_reducible refine below_step ?_ (by with_reducible assumption) ?_) | (with_reducible exact Nat.le_refl _) | omega | (simp; omega) | (simp; done))))
      have HB2 : Below w.heap.size w w2 := by (repeat' (first | (with_reducible exact Below.refl _ _) | (with_reducible assumption) | (with_reducible exact Bw.out (by with_reducible assumption)) | (with_reducible refine bw_alloc ?_ _) | (with_reducible refine bw_step ?_ (by with_reducible assumption)) | (with_reducible refine Below.alloc ?_ ?_ _) | (with_reducible refine Below.drew ?_) | (with_reducible refine below_drewN ?_ _) | (with_reducible refine Below.setCell ?_ ?_ _) | (with_reducible refine below_step ?_ (by with_reducible assumption) ?_) | (with_reducible exact Nat.le_refl _) | omega | (simp; omega) | (simp; done)))
      clear R_b_1 c_b_0_1 c_b_1_1 c_b_2_1 c_b_3_1 c_b_4_1 c_b_5_1 c_b_6_1 c_b_7_1 c_b_8_1 c_b_9_1 R_s_1 c_s_0_1 c_s_1_1 hb1 HB1
      go_wp2_with fail
      go_ret
      refine ⟨(by first | rfl | exact ret_bool (by first | rfl | (simp; done) | (simp; omega))), ?_⟩
      (repeat' (first | (with_reducible exact Below.refl _ _) | (with_reducible assumption) | (with_reducible exact Bw.out (by with_reducible assumption)) | (with_reducible refine bw_alloc ?_ _) | (with_reducible refine bw_step ?_ (by with_reducible assumption)) | (with_reducible refine Below.alloc ?_ ?_ _) | (with_reducible refine Below.drew ?_) | (with_reducible refine below_drewN ?_ _) | (with_reducible refine Below.setCell ?_ ?_ _) | (with_reducible refine below_step ?_ (by with_reducible assumption) ?_) | (with_reducible exact Nat.le_refl _) | omega | (simp; omega) | (simp; done)))
    by_cases h3 : B.un < s1
    · have h1' : s0 < s1 := by omega
      have h2' : B.fr ≤ s0 := by omega
      clear h1 h2
      go_enter Try.func6, Try.ntmps6
      go_wp2_with fail
      refine (head_any _).mono ?_
      rintro e w1 ⟨rfl, hb1⟩
      have R_b_1 : Row w1 (w.heap.size) [.int .i64 B.id, .int .i64 B.kind, .int .i64 B.rooms, .int .i64 B.fr, .int .i64 B.un, .slice ca cn cc, .int .i64 B.pn, .int .i64 B.pd, .int .i64 B.fee, .slice (some ⟨bb, off, none⟩) pm pc] := by (repeat' (first | (with_reducible assumption) | (with_reducible refine Row.new' _ _ _ (by first | rfl | (simp; done) | omega)) | (with_reducible refine Row.alloc ?_ _) | (with_reducible refine Row.drew ?_) | (with_reducible refine Row.drewN ?_ _) | (with_reducible refine Row.step ?_ (by with_reducible assumption)) | (with_reducible refine Row.set2' ?_ _ _; first | exact ⟨_, _, by with_reducible assumption⟩ | exact ⟨_, _, Row.alloc (by with_reducible assumption) _⟩ | exact ⟨_, _, Row.alloc (Row.alloc (by with_reducible assumption) _) _⟩) | (with_reducible refine Row.other ?_ (by first | omega | (simp; done) | (simp; omega)) _)))
      have c_b_0_1 := R_b_1.cell 0 rfl
      have c_b_1_1 := R_b_1.cell 1 rfl
      have c_b_2_1 := R_b_1.cell 2 rfl
      have c_b_3_1 := R_b_1.cell 3 rfl
      have c_b_4_1 := R_b_1.cell 4 rfl
      have c_b_5_1 := R_b_1.cell 5 rfl
      have c_b_6_1 := R_b_1.cell 6 rfl
      have c_b_7_1 := R_b_1.cell 7 rfl
      have c_b_8_1 := R_b_1.cell 8 rfl
      have c_b_9_1 := R_b_1.cell 9 rfl
      have l_b_1 := R_b_1.lt
      have R_s_1 : Row w1 (w.heap.size + 1) [.int .i64 (s0), .int .i64 (s1)] := by (repeat' (first | (with_reducible assumption) | (with_reducible refine Row.new' _ _ _ (by first | rfl | (simp; done) | omega)) | (with_reducible refine Row.alloc ?_ _) | (with_reducible refine Row.drew ?_) | (with_reducible refine Row.drewN ?_ _) | (with_reducible refine Row.step ?_ (by with_reducible assumption)) | (with_reducible refine Row.set2' ?_ _ _; first | exact ⟨_, _, by with_reducible assumption⟩ | exact ⟨_, _, Row.alloc (by with_reducible assumption) _⟩ | exact ⟨_, _, Row.alloc (Row.alloc (by with_reducible assumption) _) _⟩) | (with_reducible refine Row.other ?_ (by first | omega | (simp; done) | (simp; omega)) _)))
      have c_s_0_1 := R_s_1.cell 0 rfl
      have c_s_1_1 := R_s_1.cell 1 rfl
      have l_s_1 := R_s_1.lt
      replace K := K.step (show Below w.heap.size w w1 by (repeat' (first | (with_reducible exact Below.refl _ _) | (with_reducible assumption) | (with_reducible exact Bw.out (by with_reducible assumption)) | (with_reducible refine bw_alloc ?_ _) | (with_reducible refine bw_step ?_ (by with_reducible assumption)) | (with_reducible refine Below.alloc ?_ ?_ _) | (with_reducible refine Below.drew ?_) | (with_reducible refine below_drewN ?_ _) | (with_reducible refine Below.setCell ?_ ?_ _) | (with_reducible refine below_step ?_ (by with_reducible assumption) ?_) | (with_reducible exact Nat.le_refl _) | omega | (simp; omega) | (simp; done))))
      have HB1 : Below w.heap.size w w1 := by (repeat' (first | (with_reducible exact Below.refl _ _) | (with_reducible assumption) | (with_reducible exact Bw.out (by with_reducible assumption)) | (with_reducible refine bw_alloc ?_ _) | (with_reducible refine bw_step ?_ (by with_reducible assumption)) | (with_reducible refine Below.alloc ?_ ?_ _) | (with_reducible refine Below.drew ?_) | (with_reducible refine below_drewN ?_ _) | (with_reducible refine Below.setCell ?_ ?_ _) | (with_reducible refine below_step ?_ (by with_reducible assumption) ?_) | (with_reducible exact Nat.le_refl _) | omega | (simp; omega) | (simp; done)))
      go_wp2_with fail
      refine (l_usable B day _ _ _ _ _ _ _ (K.step (by (repeat' (first | (with_reducible exact Below.refl _ _) | (with_reducible assumption) | (with_reducible exact Bw.out (by with_reducible assumption)) | (with_reducible refine bw_alloc ?_ _) | (with_reducible refine bw_step ?_ (by with_reducible assumption)) | (with_reducible refine Below.alloc ?_ ?_ _) | (with_reducible refine Below.drew ?_) | (with_reducible refine below_drewN ?_ _) | (with_reducible refine Below.setCell ?_ ?_ _) | (with_reducible refine below_step ?_ (by with_reducible assumption) ?_) | (with_reducible exact Nat.le_refl _) | omega | (simp; omega) | (simp; done))))) true HU.out).mono ?_
      rintro e w2 ⟨rfl, hb2⟩
      have R_b_2 : Row w2 (w.heap.size) [.int .i64 B.id, .int .i64 B.kind, .int .i64 B.rooms, .int .i64 B.fr, .int .i64 B.un, .slice ca cn cc, .int .i64 B.pn, .int .i64 B.pd, .int .i64 B.fee, .slice (some ⟨bb, off, none⟩) pm pc] := by (repeat' (first | (with_reducible assumption) | (with_reducible refine Row.new' _ _ _ (by first | rfl | (simp; done) | omega)) | (with_reducible refine Row.alloc ?_ _) | (with_reducible refine Row.drew ?_) | (with_reducible refine Row.drewN ?_ _) | (with_reducible refine Row.step ?_ (by with_reducible assumption)) | (with_reducible refine Row.set2' ?_ _ _; first | exact ⟨_, _, by with_reducible assumption⟩ | exact ⟨_, _, Row.alloc (by with_reducible assumption) _⟩ | exact ⟨_, _, Row.alloc (Row.alloc (by with_reducible assumption) _) _⟩) | (with_reducible refine Row.other ?_ (by first | omega | (simp; done) | (simp; omega)) _)))
      have c_b_0_2 := R_b_2.cell 0 rfl
      have c_b_1_2 := R_b_2.cell 1 rfl
      have c_b_2_2 := R_b_2.cell 2 rfl
      have c_b_3_2 := R_b_2.cell 3 rfl
      have c_b_4_2 := R_b_2.cell 4 rfl
      have c_b_5_2 := R_b_2.cell 5 rfl
      have c_b_6_2 := R_b_2.cell 6 rfl
      have c_b_7_2 := R_b_2.cell 7 rfl
      have c_b_8_2 := R_b_2.cell 8 rfl
      have c_b_9_2 := R_b_2.cell 9 rfl
      have l_b_2 := R_b_2.lt
      have R_s_2 : Row w2 (w.heap.size + 1) [.int .i64 (s0), .int .i64 (s1)] := by (repeat' (first | (with_reducible assumption) | (with_reducible refine Row.new' _ _ _ (by first | rfl | (simp; done) | omega)) | (with_reducible refine Row.alloc ?_ _) | (with_reducible refine Row.drew ?_) | (with_reducible refine Row.drewN ?_ _) | (with_reducible refine Row.step ?_ (by with_reducible assumption)) | (with_reducible refine Row.set2' ?_ _ _; first | exact ⟨_, _, by with_reducible assumption⟩ | exact ⟨_, _, Row.alloc (by with_reducible assumption) _⟩ | exact ⟨_, _, Row.alloc (Row.alloc (by with_reducible assumption) _) _⟩) | (with_reducible refine Row.other ?_ (by first | omega | (simp; done) | (simp; omega)) _)))
      have c_s_0_2 := R_s_2.cell 0 rfl
      have c_s_1_2 := R_s_2.cell 1 rfl
      have l_s_2 := R_s_2.lt
      replace K := K.step (show Below w1.heap.size w1 w2 by (repeat' (first | (with_reducible exact Below.refl _ _) | (with_reducible assumption) | (with_reducible exact Bw.out (by with_reducible assumption)) | (with_reducible refine bw_alloc ?_ _) | (with_reducible refine bw_step ?_ (by with_reducible assumption)) | (with_reducible refine Below.alloc ?_ ?_ _) | (with_reducible refine Below.drew ?_) | (with_reducible refine below_drewN ?_ _) | (with_reducible refine Below.setCell ?_ ?_ _) | (with_reducible refine below_step ?_ (by with_reducible assumption) ?_) | (with_reducible exact Nat.le_refl _) | omega | (simp; omega) | (simp; done))))
      have HB2 : Below w.heap.size w w2 := by (repeat' (first | (with_reducible exact Below.refl _ _) | (with_reducible assumption) | (with_reducible exact Bw.out (by with_reducible assumption)) | (with_reducible refine bw_alloc ?_ _) | (with_reducible refine bw_step ?_ (by with_reducible assumption)) | (with_reducible refine Below.alloc ?_ ?_ _) | (with_reducible refine Below.drew ?_) | (with_reducible refine below_drewN ?_ _) | (with_reducible refine Below.setCell ?_ ?_ _) | (with_reducible refine below_step ?_ (by with_reducible assumption) ?_) | (with_reducible exact Nat.le_refl _) | omega | (simp; omega) | (simp; done)))
      clear R_b_1 c_b_0_1 c_b_1_1 c_b_2_1 c_b_3_1 c_b_4_1 c_b_5_1 c_b_6_1 c_b_7_1 c_b_8_1 c_b_9_1 R_s_1 c_s_0_1 c_s_1_1 hb1 HB1
      go_wp2_with fail
      go_ret
      refine ⟨(by first | rfl | exact ret_bool (by first | rfl | (simp; done) | (simp; omega))), ?_⟩
      (repeat' (first | (with_reducible exact Below.refl _ _) | (with_reducible assumption) | (with_reducible exact Bw.out (by with_reducible assumption)) | (with_reducible refine bw_alloc ?_ _) | (with_reducible refine bw_step ?_ (by with_reducible assumption)) | (with_reducible refine Below.alloc ?_ ?_ _) | (with_reducible refine Below.drew ?_) | (with_reducible refine below_drewN ?_ _) | (with_reducible refine Below.setCell ?_ ?_ _) | (with_reducible refine below_step ?_ (by with_reducible assumption) ?_) | (with_reducible exact Nat.le_refl _) | omega | (simp; omega) | (simp; done)))
    have h1' : s0 < s1 := by omega
    have h2' : B.fr ≤ s0 := by omega
    have h3' : s1 ≤ B.un := by omega
    clear h1 h2 h3
    have hjn := Int.emod_nonneg q (show B.un - B.fr ≠ 0 by omega)
    have hjl := Int.emod_lt_of_pos q (show 0 < B.un - B.fr by omega)
    obtain ⟨j, hj⟩ := Int.eq_ofNat_of_zero_le hjn
    have hjp : j < pm := by have := ok.len; rw [hpl] at this; omega
    obtain ⟨a, ha⟩ := Int.eq_ofNat_of_zero_le (show 0 ≤ s0 - B.fr by omega)
    obtain ⟨c, hc⟩ := Int.eq_ofNat_of_zero_le (show 0 ≤ s1 - B.fr by omega)
    obtain ⟨L, hL⟩ : ∃ L, limI B day = L := ⟨_, rfl⟩
    have hpe : peE B day s0 s1 = if fullB L a c B.picked = true then 31 else 0 := by
      unfold peE
      rw [hv, hd, decide_eq_true h1']
      simp only [Bool.and_self, if_true]
      rw [if_pos ⟨h2', h3'⟩, show ixA B s0 = a by unfold ixA; omega, show ixA B s1 = c by unfold ixA; omega, hL]
    have HS0 : Hid (s0 = B.fr + a) := by show _ = _; omega
    have HS1 : Hid (s1 = B.fr + c) := by show _ = _; omega
    have HLP := Lib.hid hpl
    have HOK := Lib.hid ok
    have HL := Lib.hid hL
    have HWS := Lib.hid (And.intro ws0 ws1)
    have hcp : c ≤ pm := by have := ok.len; rw [hpl] at this; omega
    have hac : a < c := by omega
    have hfr : B.fr ≤ 366 := by omega
    have hp366 : pm ≤ 366 := by have := ok.len; rw [hpl] at this; omega
    cases hF : fullB L a c B.picked with
    | true =>
      have HF := Lib.hid hF
      rw [hF, if_pos rfl] at hpe
      have HP := Lib.hid hpe
      clear hF hpe ha hc hL hpl ok hv hd ws0 ws1 hjn hjl
      go_enter Try.func6, Try.ntmps6
      go_wp2_with fail
      refine (head_any _).mono ?_
      rintro e w1 ⟨rfl, hb1⟩
      have R_b_1 : Row w1 (w.heap.size) [.int .i64 B.id, .int .i64 B.kind, .int .i64 B.rooms, .int .i64 B.fr, .int .i64 B.un, .slice ca cn cc, .int .i64 B.pn, .int .i64 B.pd, .int .i64 B.fee, .slice (some ⟨bb, off, none⟩) pm pc] := by (repeat' (first | (with_reducible assumption) | (with_reducible refine Row.new' _ _ _ (by first | rfl | (simp; done) | omega)) | (with_reducible refine Row.alloc ?_ _) | (with_reducible refine Row.drew ?_) | (with_reducible refine Row.drewN ?_ _) | (with_reducible refine Row.step ?_ (by with_reducible assumption)) | (with_reducible refine Row.set2' ?_ _ _; first | exact ⟨_, _, by with_reducible assumption⟩ | exact ⟨_, _, Row.alloc (by with_reducible assumption) _⟩ | exact ⟨_, _, Row.alloc (Row.alloc (by with_reducible assumption) _) _⟩) | (with_reducible refine Row.other ?_ (by first | omega | (simp; done) | (simp; omega)) _)))
      have c_b_0_1 := R_b_1.cell 0 rfl
      have c_b_1_1 := R_b_1.cell 1 rfl
      have c_b_2_1 := R_b_1.cell 2 rfl
      have c_b_3_1 := R_b_1.cell 3 rfl
      have c_b_4_1 := R_b_1.cell 4 rfl
      have c_b_5_1 := R_b_1.cell 5 rfl
      have c_b_6_1 := R_b_1.cell 6 rfl
      have c_b_7_1 := R_b_1.cell 7 rfl
      have c_b_8_1 := R_b_1.cell 8 rfl
      have c_b_9_1 := R_b_1.cell 9 rfl
      have l_b_1 := R_b_1.lt
      have R_s_1 : Row w1 (w.heap.size + 1) [.int .i64 (s0), .int .i64 (s1)] := by (repeat' (first | (with_reducible assumption) | (with_reducible refine Row.new' _ _ _ (by first | rfl | (simp; done) | omega)) | (with_reducible refine Row.alloc ?_ _) | (with_reducible refine Row.drew ?_) | (with_reducible refine Row.drewN ?_ _) | (with_reducible refine Row.step ?_ (by with_reducible assumption)) | (with_reducible refine Row.set2' ?_ _ _; first | exact ⟨_, _, by with_reducible assumption⟩ | exact ⟨_, _, Row.alloc (by with_reducible assumption) _⟩ | exact ⟨_, _, Row.alloc (Row.alloc (by with_reducible assumption) _) _⟩) | (with_reducible refine Row.other ?_ (by first | omega | (simp; done) | (simp; omega)) _)))
      have c_s_0_1 := R_s_1.cell 0 rfl
      have c_s_1_1 := R_s_1.cell 1 rfl
      have l_s_1 := R_s_1.lt
      replace K := K.step (show Below w.heap.size w w1 by (repeat' (first | (with_reducible exact Below.refl _ _) | (with_reducible assumption) | (with_reducible exact Bw.out (by with_reducible assumption)) | (with_reducible refine bw_alloc ?_ _) | (with_reducible refine bw_step ?_ (by with_reducible assumption)) | (with_reducible refine Below.alloc ?_ ?_ _) | (with_reducible refine Below.drew ?_) | (with_reducible refine below_drewN ?_ _) | (with_reducible refine Below.setCell ?_ ?_ _) | (with_reducible refine below_step ?_ (by with_reducible assumption) ?_) | (with_reducible exact Nat.le_refl _) | omega | (simp; omega) | (simp; done))))
      have HB1 : Below w.heap.size w w1 := by (repeat' (first | (with_reducible exact Below.refl _ _) | (with_reducible assumption) | (with_reducible exact Bw.out (by with_reducible assumption)) | (with_reducible refine bw_alloc ?_ _) | (with_reducible refine bw_step ?_ (by with_reducible assumption)) | (with_reducible refine Below.alloc ?_ ?_ _) | (with_reducible refine Below.drew ?_) | (with_reducible refine below_drewN ?_ _) | (with_reducible refine Below.setCell ?_ ?_ _) | (with_reducible refine below_step ?_ (by with_reducible assumption) ?_) | (with_reducible exact Nat.le_refl _) | omega | (simp; omega) | (simp; done)))
      go_wp2_with fail
      refine (l_usable B day _ _ _ _ _ _ _ (K.step (by (repeat' (first | (with_reducible exact Below.refl _ _) | (with_reducible assumption) | (with_reducible exact Bw.out (by with_reducible assumption)) | (with_reducible refine bw_alloc ?_ _) | (with_reducible refine bw_step ?_ (by with_reducible assumption)) | (with_reducible refine Below.alloc ?_ ?_ _) | (with_reducible refine Below.drew ?_) | (with_reducible refine below_drewN ?_ _) | (with_reducible refine Below.setCell ?_ ?_ _) | (with_reducible refine below_step ?_ (by with_reducible assumption) ?_) | (with_reducible exact Nat.le_refl _) | omega | (simp; omega) | (simp; done))))) true HU.out).mono ?_
      rintro e w2 ⟨rfl, hb2⟩
      have R_b_2 : Row w2 (w.heap.size) [.int .i64 B.id, .int .i64 B.kind, .int .i64 B.rooms, .int .i64 B.fr, .int .i64 B.un, .slice ca cn cc, .int .i64 B.pn, .int .i64 B.pd, .int .i64 B.fee, .slice (some ⟨bb, off, none⟩) pm pc] := by (repeat' (first | (with_reducible assumption) | (with_reducible refine Row.new' _ _ _ (by first | rfl | (simp; done) | omega)) | (with_reducible refine Row.alloc ?_ _) | (with_reducible refine Row.drew ?_) | (with_reducible refine Row.drewN ?_ _) | (with_reducible refine Row.step ?_ (by with_reducible assumption)) | (with_reducible refine Row.set2' ?_ _ _; first | exact ⟨_, _, by with_reducible assumption⟩ | exact ⟨_, _, Row.alloc (by with_reducible assumption) _⟩ | exact ⟨_, _, Row.alloc (Row.alloc (by with_reducible assumption) _) _⟩) | (with_reducible refine Row.other ?_ (by first | omega | (simp; done) | (simp; omega)) _)))
      have c_b_0_2 := R_b_2.cell 0 rfl
      have c_b_1_2 := R_b_2.cell 1 rfl
      have c_b_2_2 := R_b_2.cell 2 rfl
      have c_b_3_2 := R_b_2.cell 3 rfl
      have c_b_4_2 := R_b_2.cell 4 rfl
      have c_b_5_2 := R_b_2.cell 5 rfl
      have c_b_6_2 := R_b_2.cell 6 rfl
      have c_b_7_2 := R_b_2.cell 7 rfl
      have c_b_8_2 := R_b_2.cell 8 rfl
      have c_b_9_2 := R_b_2.cell 9 rfl
      have l_b_2 := R_b_2.lt
      have R_s_2 : Row w2 (w.heap.size + 1) [.int .i64 (s0), .int .i64 (s1)] := by (repeat' (first | (with_reducible assumption) | (with_reducible refine Row.new' _ _ _ (by first | rfl | (simp; done) | omega)) | (with_reducible refine Row.alloc ?_ _) | (with_reducible refine Row.drew ?_) | (with_reducible refine Row.drewN ?_ _) | (with_reducible refine Row.step ?_ (by with_reducible assumption)) | (with_reducible refine Row.set2' ?_ _ _; first | exact ⟨_, _, by with_reducible assumption⟩ | exact ⟨_, _, Row.alloc (by with_reducible assumption) _⟩ | exact ⟨_, _, Row.alloc (Row.alloc (by with_reducible assumption) _) _⟩) | (with_reducible refine Row.other ?_ (by first | omega | (simp; done) | (simp; omega)) _)))
      have c_s_0_2 := R_s_2.cell 0 rfl
      have c_s_1_2 := R_s_2.cell 1 rfl
      have l_s_2 := R_s_2.lt
      replace K := K.step (show Below w1.heap.size w1 w2 by (repeat' (first | (with_reducible exact Below.refl _ _) | (with_reducible assumption) | (with_reducible exact Bw.out (by with_reducible assumption)) | (with_reducible refine bw_alloc ?_ _) | (with_reducible refine bw_step ?_ (by with_reducible assumption)) | (with_reducible refine Below.alloc ?_ ?_ _) | (with_reducible refine Below.drew ?_) | (with_reducible refine below_drewN ?_ _) | (with_reducible refine Below.setCell ?_ ?_ _) | (with_reducible refine below_step ?_ (by with_reducible assumption) ?_) | (with_reducible exact Nat.le_refl _) | omega | (simp; omega) | (simp; done))))
      have HB2 : Below w.heap.size w w2 := by (repeat' (first | (with_reducible exact Below.refl _ _) | (with_reducible assumption) | (with_reducible exact Bw.out (by with_reducible assumption)) | (with_reducible refine bw_alloc ?_ _) | (with_reducible refine bw_step ?_ (by with_reducible assumption)) | (with_reducible refine Below.alloc ?_ ?_ _) | (with_reducible refine Below.drew ?_) | (with_reducible refine below_drewN ?_ _) | (with_reducible refine Below.setCell ?_ ?_ _) | (with_reducible refine below_step ?_ (by with_reducible assumption) ?_) | (with_reducible exact Nat.le_refl _) | omega | (simp; omega) | (simp; done)))
      clear R_b_1 c_b_0_1 c_b_1_1 c_b_2_1 c_b_3_1 c_b_4_1 c_b_5_1 c_b_6_1 c_b_7_1 c_b_8_1 c_b_9_1 R_s_1 c_s_0_1 c_s_1_1 hb1 HB1
      go_wp2_with fail
      refine (g_Pick_none B day s0 s1 _ _ _ _ _ _ _ (K.step (by (repeat' (first | (with_reducible exact Below.refl _ _) | (with_reducible assumption) | (with_reducible exact Bw.out (by with_reducible assumption)) | (with_reducible refine bw_alloc ?_ _) | (with_reducible refine bw_step ?_ (by with_reducible assumption)) | (with_reducible refine Below.alloc ?_ ?_ _) | (with_reducible refine Below.drew ?_) | (with_reducible refine below_drewN ?_ _) | (with_reducible refine Below.setCell ?_ ?_ _) | (with_reducible refine below_step ?_ (by with_reducible assumption) ?_) | (with_reducible exact Nat.le_refl _) | omega | (simp; omega) | (simp; done))))) 31 HP.out (by decide) HWS.out.1 HWS.out.2).mono ?_
      rintro e w3 ⟨rfl, hb3⟩
      have R_b_3 : Row w3 (w.heap.size) [.int .i64 B.id, .int .i64 B.kind, .int .i64 B.rooms, .int .i64 B.fr, .int .i64 B.un, .slice ca cn cc, .int .i64 B.pn, .int .i64 B.pd, .int .i64 B.fee, .slice (some ⟨bb, off, none⟩) pm pc] := by (repeat' (first | (with_reducible assumption) | (with_reducible refine Row.new' _ _ _ (by first | rfl | (simp; done) | omega)) | (with_reducible refine Row.alloc ?_ _) | (with_reducible refine Row.drew ?_) | (with_reducible refine Row.drewN ?_ _) | (with_reducible refine Row.step ?_ (by with_reducible assumption)) | (with_reducible refine Row.set2' ?_ _ _; first | exact ⟨_, _, by with_reducible assumption⟩ | exact ⟨_, _, Row.alloc (by with_reducible assumption) _⟩ | exact ⟨_, _, Row.alloc (Row.alloc (by with_reducible assumption) _) _⟩) | (with_reducible refine Row.other ?_ (by first | omega | (simp; done) | (simp; omega)) _)))
      have c_b_0_3 := R_b_3.cell 0 rfl
      have c_b_1_3 := R_b_3.cell 1 rfl
      have c_b_2_3 := R_b_3.cell 2 rfl
      have c_b_3_3 := R_b_3.cell 3 rfl
      have c_b_4_3 := R_b_3.cell 4 rfl
      have c_b_5_3 := R_b_3.cell 5 rfl
      have c_b_6_3 := R_b_3.cell 6 rfl
      have c_b_7_3 := R_b_3.cell 7 rfl
      have c_b_8_3 := R_b_3.cell 8 rfl
      have c_b_9_3 := R_b_3.cell 9 rfl
      have l_b_3 := R_b_3.lt
      have R_s_3 : Row w3 (w.heap.size + 1) [.int .i64 (s0), .int .i64 (s1)] := by (repeat' (first | (with_reducible assumption) | (with_reducible refine Row.new' _ _ _ (by first | rfl | (simp; done) | omega)) | (with_reducible refine Row.alloc ?_ _) | (with_reducible refine Row.drew ?_) | (with_reducible refine Row.drewN ?_ _) | (with_reducible refine Row.step ?_ (by with_reducible assumption)) | (with_reducible refine Row.set2' ?_ _ _; first | exact ⟨_, _, by with_reducible assumption⟩ | exact ⟨_, _, Row.alloc (by with_reducible assumption) _⟩ | exact ⟨_, _, Row.alloc (Row.alloc (by with_reducible assumption) _) _⟩) | (with_reducible refine Row.other ?_ (by first | omega | (simp; done) | (simp; omega)) _)))
      have c_s_0_3 := R_s_3.cell 0 rfl
      have c_s_1_3 := R_s_3.cell 1 rfl
      have l_s_3 := R_s_3.lt
      replace K := K.step (show Below w2.heap.size w2 w3 by (repeat' (first | (with_reducible exact Below.refl _ _) | (with_reducible assumption) | (with_reducible exact Bw.out (by with_reducible assumption)) | (with_reducible refine bw_alloc ?_ _) | (with_reducible refine bw_step ?_ (by with_reducible assumption)) | (with_reducible refine Below.alloc ?_ ?_ _) | (with_reducible refine Below.drew ?_) | (with_reducible refine below_drewN ?_ _) | (with_reducible refine Below.setCell ?_ ?_ _) | (with_reducible refine below_step ?_ (by with_reducible assumption) ?_) | (with_reducible exact Nat.le_refl _) | omega | (simp; omega) | (simp; done))))
      have HB3 : Below w.heap.size w w3 := by (repeat' (first | (with_reducible exact Below.refl _ _) | (with_reducible assumption) | (with_reducible exact Bw.out (by with_reducible assumption)) | (with_reducible refine bw_alloc ?_ _) | (with_reducible refine bw_step ?_ (by with_reducible assumption)) | (with_reducible refine Below.alloc ?_ ?_ _) | (with_reducible refine Below.drew ?_) | (with_reducible refine below_drewN ?_ _) | (with_reducible refine Below.setCell ?_ ?_ _) | (with_reducible refine below_step ?_ (by with_reducible assumption) ?_) | (with_reducible exact Nat.le_refl _) | omega | (simp; omega) | (simp; done)))
      clear R_b_2 c_b_0_2 c_b_1_2 c_b_2_2 c_b_3_2 c_b_4_2 c_b_5_2 c_b_6_2 c_b_7_2 c_b_8_2 c_b_9_2 R_s_2 c_s_0_2 c_s_1_2 hb2 HB2
      go_upto_region 5 with fail
      generalize hw4 : w3.alloc _ = w4
      have RX : Row w4 w3.heap.size [.int .i64 0, .int .i64 0, .int .i64 0, .int .i64 0, .int .i64 0, .slice none 0 0, .int .i64 0, .int .i64 0, .int .i64 0, .slice none 0 0] := by rw [← hw4]; exact Row.new' _ [.int .i64 0, .int .i64 0, .int .i64 0, .int .i64 0, .int .i64 0, .slice none 0 0, .int .i64 0, .int .i64 0, .int .i64 0, .slice none 0 0] _ rfl
      have hb4 : Below w3.heap.size w3 w4 := by rw [← hw4]; (repeat' (first | (with_reducible exact Below.refl _ _) | (with_reducible assumption) | (with_reducible exact Bw.out (by with_reducible assumption)) | (with_reducible refine bw_alloc ?_ _) | (with_reducible refine bw_step ?_ (by with_reducible assumption)) | (with_reducible refine Below.alloc ?_ ?_ _) | (with_reducible refine Below.drew ?_) | (with_reducible refine below_drewN ?_ _) | (with_reducible refine Below.setCell ?_ ?_ _) | (with_reducible refine below_step ?_ (by with_reducible assumption) ?_) | (with_reducible exact Nat.le_refl _) | omega | (simp; omega) | (simp; done)))
      clear hw4
      have R_b_4 : Row w4 (w.heap.size) [.int .i64 B.id, .int .i64 B.kind, .int .i64 B.rooms, .int .i64 B.fr, .int .i64 B.un, .slice ca cn cc, .int .i64 B.pn, .int .i64 B.pd, .int .i64 B.fee, .slice (some ⟨bb, off, none⟩) pm pc] := by (repeat' (first | (with_reducible assumption) | (with_reducible refine Row.new' _ _ _ (by first | rfl | (simp; done) | omega)) | (with_reducible refine Row.alloc ?_ _) | (with_reducible refine Row.drew ?_) | (with_reducible refine Row.drewN ?_ _) | (with_reducible refine Row.step ?_ (by with_reducible assumption)) | (with_reducible refine Row.set2' ?_ _ _; first | exact ⟨_, _, by with_reducible assumption⟩ | exact ⟨_, _, Row.alloc (by with_reducible assumption) _⟩ | exact ⟨_, _, Row.alloc (Row.alloc (by with_reducible assumption) _) _⟩) | (with_reducible refine Row.other ?_ (by first | omega | (simp; done) | (simp; omega)) _)))
      have c_b_0_4 := R_b_4.cell 0 rfl
      have c_b_1_4 := R_b_4.cell 1 rfl
      have c_b_2_4 := R_b_4.cell 2 rfl
      have c_b_3_4 := R_b_4.cell 3 rfl
      have c_b_4_4 := R_b_4.cell 4 rfl
      have c_b_5_4 := R_b_4.cell 5 rfl
      have c_b_6_4 := R_b_4.cell 6 rfl
      have c_b_7_4 := R_b_4.cell 7 rfl
      have c_b_8_4 := R_b_4.cell 8 rfl
      have c_b_9_4 := R_b_4.cell 9 rfl
      have l_b_4 := R_b_4.lt
      have R_s_4 : Row w4 (w.heap.size + 1) [.int .i64 (s0), .int .i64 (s1)] := by (repeat' (first | (with_reducible assumption) | (with_reducible refine Row.new' _ _ _ (by first | rfl | (simp; done) | omega)) | (with_reducible refine Row.alloc ?_ _) | (with_reducible refine Row.drew ?_) | (with_reducible refine Row.drewN ?_ _) | (with_reducible refine Row.step ?_ (by with_reducible assumption)) | (with_reducible refine Row.set2' ?_ _ _; first | exact ⟨_, _, by with_reducible assumption⟩ | exact ⟨_, _, Row.alloc (by with_reducible assumption) _⟩ | exact ⟨_, _, Row.alloc (Row.alloc (by with_reducible assumption) _) _⟩) | (with_reducible refine Row.other ?_ (by first | omega | (simp; done) | (simp; omega)) _)))
      have c_s_0_4 := R_s_4.cell 0 rfl
      have c_s_1_4 := R_s_4.cell 1 rfl
      have l_s_4 := R_s_4.lt
      have R_x_4 : Row w4 (w3.heap.size) [.int .i64 0, .int .i64 0, .int .i64 0, .int .i64 0, .int .i64 0, .slice none 0 0, .int .i64 0, .int .i64 0, .int .i64 0, .slice none 0 0] := by (repeat' (first | (with_reducible assumption) | (with_reducible refine Row.new' _ _ _ (by first | rfl | (simp; done) | omega)) | (with_reducible refine Row.alloc ?_ _) | (with_reducible refine Row.drew ?_) | (with_reducible refine Row.drewN ?_ _) | (with_reducible refine Row.step ?_ (by with_reducible assumption)) | (with_reducible refine Row.set2' ?_ _ _; first | exact ⟨_, _, by with_reducible assumption⟩ | exact ⟨_, _, Row.alloc (by with_reducible assumption) _⟩ | exact ⟨_, _, Row.alloc (Row.alloc (by with_reducible assumption) _) _⟩) | (with_reducible refine Row.other ?_ (by first | omega | (simp; done) | (simp; omega)) _)))
      have c_x_0_4 := R_x_4.cell 0 rfl
      have c_x_1_4 := R_x_4.cell 1 rfl
      have c_x_2_4 := R_x_4.cell 2 rfl
      have c_x_3_4 := R_x_4.cell 3 rfl
      have c_x_4_4 := R_x_4.cell 4 rfl
      have c_x_5_4 := R_x_4.cell 5 rfl
      have c_x_6_4 := R_x_4.cell 6 rfl
      have c_x_7_4 := R_x_4.cell 7 rfl
      have c_x_8_4 := R_x_4.cell 8 rfl
      have c_x_9_4 := R_x_4.cell 9 rfl
      have z_x_0_4 := R_x_4.frozen 0
      have z_x_1_4 := R_x_4.frozen 1
      have z_x_2_4 := R_x_4.frozen 2
      have z_x_3_4 := R_x_4.frozen 3
      have z_x_4_4 := R_x_4.frozen 4
      have z_x_5_4 := R_x_4.frozen 5
      have z_x_6_4 := R_x_4.frozen 6
      have z_x_7_4 := R_x_4.frozen 7
      have z_x_8_4 := R_x_4.frozen 8
      have z_x_9_4 := R_x_4.frozen 9
      have l_x_4 := R_x_4.lt
      replace K := K.step (show Below w3.heap.size w3 w4 by (repeat' (first | (with_reducible exact Below.refl _ _) | (with_reducible assumption) | (with_reducible exact Bw.out (by with_reducible assumption)) | (with_reducible refine bw_alloc ?_ _) | (with_reducible refine bw_step ?_ (by with_reducible assumption)) | (with_reducible refine Below.alloc ?_ ?_ _) | (with_reducible refine Below.drew ?_) | (with_reducible refine below_drewN ?_ _) | (with_reducible refine Below.setCell ?_ ?_ _) | (with_reducible refine below_step ?_ (by with_reducible assumption) ?_) | (with_reducible exact Nat.le_refl _) | omega | (simp; omega) | (simp; done))))
      have HB4 : Below w.heap.size w w4 := by (repeat' (first | (with_reducible exact Below.refl _ _) | (with_reducible assumption) | (with_reducible exact Bw.out (by with_reducible assumption)) | (with_reducible refine bw_alloc ?_ _) | (with_reducible refine bw_step ?_ (by with_reducible assumption)) | (with_reducible refine Below.alloc ?_ ?_ _) | (with_reducible refine Below.drew ?_) | (with_reducible refine below_drewN ?_ _) | (with_reducible refine Below.setCell ?_ ?_ _) | (with_reducible refine below_step ?_ (by with_reducible assumption) ?_) | (with_reducible exact Nat.le_refl _) | omega | (simp; omega) | (simp; done)))
      clear R_b_3 c_b_0_3 c_b_1_3 c_b_2_3 c_b_3_3 c_b_4_3 c_b_5_3 c_b_6_3 c_b_7_3 c_b_8_3 c_b_9_3 R_s_3 c_s_0_3 c_s_1_3 hb3 HB3
      clear RX
      go_wp2_with fail
      go_loopw [12, 13] (fun u i wr => ∃ (k : Nat) (ub : Bool), a ≤ k ∧ k ≤ c ∧ i = .int .i64 (B.fr + k) ∧ u = .bool ub ∧ Hid (fullB L a k B.picked = ub) ∧ Hid (Below w4.heap.size w4 wr)) (fun _ i _ => (s1 - intOf i).toNat)
      case atStart => exact ⟨a, false, Nat.le_refl _, by omega, by rw [HS0.out], rfl, fullB_zero _ _ _, Below.refl _ _⟩
      case round =>
        obtain ⟨k, ub, hk1, hk2, rfl, rfl, hT, hB⟩ := hrel
        obtain ⟨w5, hw5⟩ : ∃ wd : World, wd = wr := ⟨_, rfl⟩
        subst hw5
        have hb5 := hB.out
        have hbk5 := hB.out
        clear hB
        have R_b_5 : Row w5 (w.heap.size) [.int .i64 B.id, .int .i64 B.kind, .int .i64 B.rooms, .int .i64 B.fr, .int .i64 B.un, .slice ca cn cc, .int .i64 B.pn, .int .i64 B.pd, .int .i64 B.fee, .slice (some ⟨bb, off, none⟩) pm pc] := by (repeat' (first | (with_reducible assumption) | (with_reducible refine Row.new' _ _ _ (by first | rfl | (simp; done) | omega)) | (with_reducible refine Row.alloc ?_ _) | (with_reducible refine Row.drew ?_) | (with_reducible refine Row.drewN ?_ _) | (with_reducible refine Row.step ?_ (by with_reducible assumption)) | (with_reducible refine Row.set2' ?_ _ _; first | exact ⟨_, _, by with_reducible assumption⟩ | exact ⟨_, _, Row.alloc (by with_reducible assumption) _⟩ | exact ⟨_, _, Row.alloc (Row.alloc (by with_reducible assumption) _) _⟩) | (with_reducible refine Row.other ?_ (by first | omega | (simp; done) | (simp; omega)) _)))
        have c_b_0_5 := R_b_5.cell 0 rfl
        have c_b_1_5 := R_b_5.cell 1 rfl
        have c_b_2_5 := R_b_5.cell 2 rfl
        have c_b_3_5 := R_b_5.cell 3 rfl
        have c_b_4_5 := R_b_5.cell 4 rfl
        have c_b_5_5 := R_b_5.cell 5 rfl
        have c_b_6_5 := R_b_5.cell 6 rfl
        have c_b_7_5 := R_b_5.cell 7 rfl
        have c_b_8_5 := R_b_5.cell 8 rfl
        have c_b_9_5 := R_b_5.cell 9 rfl
        have l_b_5 := R_b_5.lt
        have R_s_5 : Row w5 (w.heap.size + 1) [.int .i64 (s0), .int .i64 (s1)] := by (repeat' (first | (with_reducible assumption) | (with_reducible refine Row.new' _ _ _ (by first | rfl | (simp; done) | omega)) | (with_reducible refine Row.alloc ?_ _) | (with_reducible refine Row.drew ?_) | (with_reducible refine Row.drewN ?_ _) | (with_reducible refine Row.step ?_ (by with_reducible assumption)) | (with_reducible refine Row.set2' ?_ _ _; first | exact ⟨_, _, by with_reducible assumption⟩ | exact ⟨_, _, Row.alloc (by with_reducible assumption) _⟩ | exact ⟨_, _, Row.alloc (Row.alloc (by with_reducible assumption) _) _⟩) | (with_reducible refine Row.other ?_ (by first | omega | (simp; done) | (simp; omega)) _)))
        have c_s_0_5 := R_s_5.cell 0 rfl
        have c_s_1_5 := R_s_5.cell 1 rfl
        have l_s_5 := R_s_5.lt
        have R_x_5 : Row w5 (w3.heap.size) [.int .i64 0, .int .i64 0, .int .i64 0, .int .i64 0, .int .i64 0, .slice none 0 0, .int .i64 0, .int .i64 0, .int .i64 0, .slice none 0 0] := by (repeat' (first | (with_reducible assumption) | (with_reducible refine Row.new' _ _ _ (by first | rfl | (simp; done) | omega)) | (with_reducible refine Row.alloc ?_ _) | (with_reducible refine Row.drew ?_) | (with_reducible refine Row.drewN ?_ _) | (with_reducible refine Row.step ?_ (by with_reducible assumption)) | (with_reducible refine Row.set2' ?_ _ _; first | exact ⟨_, _, by with_reducible assumption⟩ | exact ⟨_, _, Row.alloc (by with_reducible assumption) _⟩ | exact ⟨_, _, Row.alloc (Row.alloc (by with_reducible assumption) _) _⟩) | (with_reducible refine Row.other ?_ (by first | omega | (simp; done) | (simp; omega)) _)))
        have c_x_0_5 := R_x_5.cell 0 rfl
        have c_x_1_5 := R_x_5.cell 1 rfl
        have c_x_2_5 := R_x_5.cell 2 rfl
        have c_x_3_5 := R_x_5.cell 3 rfl
        have c_x_4_5 := R_x_5.cell 4 rfl
        have c_x_5_5 := R_x_5.cell 5 rfl
        have c_x_6_5 := R_x_5.cell 6 rfl
        have c_x_7_5 := R_x_5.cell 7 rfl
        have c_x_8_5 := R_x_5.cell 8 rfl
        have c_x_9_5 := R_x_5.cell 9 rfl
        have z_x_0_5 := R_x_5.frozen 0
        have z_x_1_5 := R_x_5.frozen 1
        have z_x_2_5 := R_x_5.frozen 2
        have z_x_3_5 := R_x_5.frozen 3
        have z_x_4_5 := R_x_5.frozen 4
        have z_x_5_5 := R_x_5.frozen 5
        have z_x_6_5 := R_x_5.frozen 6
        have z_x_7_5 := R_x_5.frozen 7
        have z_x_8_5 := R_x_5.frozen 8
        have z_x_9_5 := R_x_5.frozen 9
        have l_x_5 := R_x_5.lt
        replace K := K.step (show Below w4.heap.size w4 w5 by (repeat' (first | (with_reducible exact Below.refl _ _) | (with_reducible assumption) | (with_reducible exact Bw.out (by with_reducible assumption)) | (with_reducible refine bw_alloc ?_ _) | (with_reducible refine bw_step ?_ (by with_reducible assumption)) | (with_reducible refine Below.alloc ?_ ?_ _) | (with_reducible refine Below.drew ?_) | (with_reducible refine below_drewN ?_ _) | (with_reducible refine Below.setCell ?_ ?_ _) | (with_reducible refine below_step ?_ (by with_reducible assumption) ?_) | (with_reducible exact Nat.le_refl _) | omega | (simp; omega) | (simp; done))))
        have HB5 : Below w.heap.size w w5 := by (repeat' (first | (with_reducible exact Below.refl _ _) | (with_reducible assumption) | (with_reducible exact Bw.out (by with_reducible assumption)) | (with_reducible refine bw_alloc ?_ _) | (with_reducible refine bw_step ?_ (by with_reducible assumption)) | (with_reducible refine Below.alloc ?_ ?_ _) | (with_reducible refine Below.drew ?_) | (with_reducible refine below_drewN ?_ _) | (with_reducible refine Below.setCell ?_ ?_ _) | (with_reducible refine below_step ?_ (by with_reducible assumption) ?_) | (with_reducible exact Nat.le_refl _) | omega | (simp; omega) | (simp; done)))
        clear R_b_4 c_b_0_4 c_b_1_4 c_b_2_4 c_b_3_4 c_b_4_4 c_b_5_4 c_b_6_4 c_b_7_4 c_b_8_4 c_b_9_4 R_s_4 c_s_0_4 c_s_1_4 R_x_4 c_x_0_4 c_x_1_4 c_x_2_4 c_x_3_4 c_x_4_4 c_x_5_4 c_x_6_4 c_x_7_4 c_x_8_4 c_x_9_4 z_x_0_4 z_x_1_4 z_x_2_4 z_x_3_4 z_x_4_4 z_x_5_4 z_x_6_4 z_x_7_4 z_x_8_4 z_x_9_4 hb4 HB4
        by_cases hlt : k < c
        · obtain ⟨z, hz⟩ : ∃ z, B.picked.getD k 0 = z := ⟨_, rfl⟩
          have hkl : k < B.picked.length := by rw [HLP.out]; omega
          have Z : CellAt w5 bb (off + k) (.int .i64 z) := by rw [← hz]; exact K.picked.cellOf (by omega)
          have HSU : Hid (fullB L a (k + 1) B.picked = (ub || decide (L ≤ z))) := by show _ = _; rw [fullB_succ hk1 hkl, hT.out, hz]
          have hlt2 : B.fr + (k : Int) < s1 := by rw [HS1.out]; omega
          have i1 : (0 : Int) ≤ (k : Int) := by omega
          have i2 : (k : Int) < (pm : Int) := by omega
          have e1 : B.fr + (k : Int) - B.fr = (k : Int) := by omega
          have e2 : IntKind.i64.wrap (k : Int) = (k : Int) := IntWalk.i64_in _ (by omega)
          clear hz hkl
          cases ub with
          | true =>
            go_wp2_with fail
            refine AnyJ.beginP (fun w' : World => w'.cell? ⟨w.heap.size, 0, none⟩ = some (.int .i64 B.id) ∧ w'.cell? ⟨w.heap.size, 1, none⟩ = some (.int .i64 B.kind) ∧ w'.cell? ⟨w.heap.size, 2, none⟩ = some (.int .i64 B.rooms) ∧ w'.cell? ⟨w.heap.size, 3, none⟩ = some (.int .i64 B.fr) ∧ w'.cell? ⟨w.heap.size, 4, none⟩ = some (.int .i64 B.un) ∧ w'.cell? ⟨w.heap.size, 5, none⟩ = some (.slice ca cn cc) ∧ w'.cell? ⟨w.heap.size, 6, none⟩ = some (.int .i64 B.pn) ∧ w'.cell? ⟨w.heap.size, 7, none⟩ = some (.int .i64 B.pd) ∧ w'.cell? ⟨w.heap.size, 8, none⟩ = some (.int .i64 B.fee) ∧ w'.cell? ⟨w.heap.size, 9, none⟩ = some (.slice (some ⟨bb, off, none⟩) pm pc) ∧ w'.cell? ⟨w.heap.size + 1, 0, none⟩ = some (.int .i64 (s0)) ∧ w'.cell? ⟨w.heap.size + 1, 1, none⟩ = some (.int .i64 (s1)) ∧ w'.cell? ⟨w3.heap.size, 0, none⟩ = some (.int .i64 0) ∧ w'.cell? ⟨w3.heap.size, 1, none⟩ = some (.int .i64 0) ∧ w'.cell? ⟨w3.heap.size, 2, none⟩ = some (.int .i64 0) ∧ w'.cell? ⟨w3.heap.size, 3, none⟩ = some (.int .i64 0) ∧ w'.cell? ⟨w3.heap.size, 4, none⟩ = some (.int .i64 0) ∧ w'.cell? ⟨w3.heap.size, 5, none⟩ = some (.slice none 0 0) ∧ w'.cell? ⟨w3.heap.size, 6, none⟩ = some (.int .i64 0) ∧ w'.cell? ⟨w3.heap.size, 7, none⟩ = some (.int .i64 0) ∧ w'.cell? ⟨w3.heap.size, 8, none⟩ = some (.int .i64 0) ∧ w'.cell? ⟨w3.heap.size, 9, none⟩ = some (.slice none 0 0)) (fun _ => true) (by kernel_rfl) ?_ (fun hS5 => ?_)
            · exact (show ∀ (P S : World → Prop) (W : World), P W → (∀ w', P w' → S w') → S W from fun P S W h f => f W h) (fun w' : World => Row w' (w.heap.size) [.int .i64 B.id, .int .i64 B.kind, .int .i64 B.rooms, .int .i64 B.fr, .int .i64 B.un, .slice ca cn cc, .int .i64 B.pn, .int .i64 B.pd, .int .i64 B.fee, .slice (some ⟨bb, off, none⟩) pm pc] ∧ Row w' (w.heap.size + 1) [.int .i64 (s0), .int .i64 (s1)] ∧ Row w' (w3.heap.size) [.int .i64 0, .int .i64 0, .int .i64 0, .int .i64 0, .int .i64 0, .slice none 0 0, .int .i64 0, .int .i64 0, .int .i64 0, .slice none 0 0]) (fun w' : World => w'.cell? ⟨w.heap.size, 0, none⟩ = some (.int .i64 B.id) ∧ w'.cell? ⟨w.heap.size, 1, none⟩ = some (.int .i64 B.kind) ∧ w'.cell? ⟨w.heap.size, 2, none⟩ = some (.int .i64 B.rooms) ∧ w'.cell? ⟨w.heap.size, 3, none⟩ = some (.int .i64 B.fr) ∧ w'.cell? ⟨w.heap.size, 4, none⟩ = some (.int .i64 B.un) ∧ w'.cell? ⟨w.heap.size, 5, none⟩ = some (.slice ca cn cc) ∧ w'.cell? ⟨w.heap.size, 6, none⟩ = some (.int .i64 B.pn) ∧ w'.cell? ⟨w.heap.size, 7, none⟩ = some (.int .i64 B.pd) ∧ w'.cell? ⟨w.heap.size, 8, none⟩ = some (.int .i64 B.fee) ∧ w'.cell? ⟨w.heap.size, 9, none⟩ = some (.slice (some ⟨bb, off, none⟩) pm pc) ∧ w'.cell? ⟨w.heap.size + 1, 0, none⟩ = some (.int .i64 (s0)) ∧ w'.cell? ⟨w.heap.size + 1, 1, none⟩ = some (.int .i64 (s1)) ∧ w'.cell? ⟨w3.heap.size, 0, none⟩ = some (.int .i64 0) ∧ w'.cell? ⟨w3.heap.size, 1, none⟩ = some (.int .i64 0) ∧ w'.cell? ⟨w3.heap.size, 2, none⟩ = some (.int .i64 0) ∧ w'.cell? ⟨w3.heap.size, 3, none⟩ = some (.int .i64 0) ∧ w'.cell? ⟨w3.heap.size, 4, none⟩ = some (.int .i64 0) ∧ w'.cell? ⟨w3.heap.size, 5, none⟩ = some (.slice none 0 0) ∧ w'.cell? ⟨w3.heap.size, 6, none⟩ = some (.int .i64 0) ∧ w'.cell? ⟨w3.heap.size, 7, none⟩ = some (.int .i64 0) ∧ w'.cell? ⟨w3.heap.size, 8, none⟩ = some (.int .i64 0) ∧ w'.cell? ⟨w3.heap.size, 9, none⟩ = some (.slice none 0 0)) _ (⟨by (repeat' (first | (with_reducible assumption) | (with_reducible refine Row.new' _ _ _ (by first | rfl | (simp; done) | omega)) | (with_reducible refine Row.alloc ?_ _) | (with_reducible refine Row.drew ?_) | (with_reducible refine Row.drewN ?_ _) | (with_reducible refine Row.step ?_ (by with_reducible assumption)) | (with_reducible refine Row.set2' ?_ _ _; first | exact ⟨_, _, by with_reducible assumption⟩ | exact ⟨_, _, Row.alloc (by with_reducible assumption) _⟩ | exact ⟨_, _, Row.alloc (Row.alloc (by with_reducible assumption) _) _⟩) | (with_reducible refine Row.other ?_ (by first | omega | (simp; done) | (simp; omega)) _))), by (repeat' (first | (with_reducible assumption) | (with_reducible refine Row.new' _ _ _ (by first | rfl | (simp; done) | omega)) | (with_reducible refine Row.alloc ?_ _) | (with_reducible refine Row.drew ?_) | (with_reducible refine Row.drewN ?_ _) | (with_reducible refine Row.step ?_ (by with_reducible assumption)) | (with_reducible refine Row.set2' ?_ _ _; first | exact ⟨_, _, by with_reducible assumption⟩ | exact ⟨_, _, Row.alloc (by with_reducible assumption) _⟩ | exact ⟨_, _, Row.alloc (Row.alloc (by with_reducible assumption) _) _⟩) | (with_reducible refine Row.other ?_ (by first | omega | (simp; done) | (simp; omega)) _))), by (repeat' (first | (with_reducible assumption) | (with_reducible refine Row.new' _ _ _ (by first | rfl | (simp; done) | omega)) | (with_reducible refine Row.alloc ?_ _) | (with_reducible refine Row.drew ?_) | (with_reducible refine Row.drewN ?_ _) | (with_reducible refine Row.step ?_ (by with_reducible assumption)) | (with_reducible refine Row.set2' ?_ _ _; first | exact ⟨_, _, by with_reducible assumption⟩ | exact ⟨_, _, Row.alloc (by with_reducible assumption) _⟩ | exact ⟨_, _, Row.alloc (Row.alloc (by with_reducible assumption) _) _⟩) | (with_reducible refine Row.other ?_ (by first | omega | (simp; done) | (simp; omega)) _)))⟩) (fun w' ⟨hP0, hP1, hP2⟩ => ⟨hP0.cell 0 rfl, hP0.cell 1 rfl, hP0.cell 2 rfl, hP0.cell 3 rfl, hP0.cell 4 rfl, hP0.cell 5 rfl, hP0.cell 6 rfl, hP0.cell 7 rfl, hP0.cell 8 rfl, hP0.cell 9 rfl, hP1.cell 0 rfl, hP1.cell 1 rfl, hP2.cell 0 rfl, hP2.cell 1 rfl, hP2.cell 2 rfl, hP2.cell 3 rfl, hP2.cell 4 rfl, hP2.cell 5 rfl, hP2.cell 6 rfl, hP2.cell 7 rfl, hP2.cell 8 rfl, hP2.cell 9 rfl⟩)
            refine AnyJ.takeD (i := 0) (d := some 66) (v := ?_) rfl (by kernel_rfl) (by kernel_rfl) (by kernel_rfl) (by kernel_rfl) (by kernel_rfl) (fun _ _ _ h => h) (Or.inl ⟨by kernel_rfl, ?_⟩) hS5 ?_
            rotate_left
            · intro w' hS
              clear hS
              go_simp
              try with_reducible rfl
            refine AnyJ.takeD (i := 1) (d := some 67) (v := ?_) rfl (by kernel_rfl) (by kernel_rfl) (by kernel_rfl) (by kernel_rfl) (by kernel_rfl) (fun _ _ _ h => h) (Or.inl ⟨by kernel_rfl, ?_⟩) hS5 ?_
            rotate_left
            · intro w' hS
              clear hS
              go_simp
              try with_reducible rfl
            refine AnyJ.takeD (i := 2) (d := some 68) (v := undef) rfl (by kernel_rfl) (by kernel_rfl) (by kernel_rfl) (by kernel_rfl) (by kernel_rfl) (fun _ _ _ h => h) (Or.inr ⟨by kernel_rfl, rfl⟩) hS5 ?_
            refine AnyJ.takeD (i := 3) (d := some 69) (v := undef) rfl (by kernel_rfl) (by kernel_rfl) (by kernel_rfl) (by kernel_rfl) (by kernel_rfl) (fun _ _ _ h => h) (Or.inr ⟨by kernel_rfl, rfl⟩) hS5 ?_
            refine AnyJ.takeD (i := 4) (d := some 70) (v := undef) rfl (by kernel_rfl) (by kernel_rfl) (by kernel_rfl) (by kernel_rfl) (by kernel_rfl) (fun _ _ _ h => h) (Or.inr ⟨by kernel_rfl, rfl⟩) hS5 ?_
            refine AnyJ.takeD (i := 5) (d := some 71) (v := undef) rfl (by kernel_rfl) (by kernel_rfl) (by kernel_rfl) (by kernel_rfl) (by kernel_rfl) (fun _ _ _ h => h) (Or.inr ⟨by kernel_rfl, rfl⟩) hS5 ?_
            refine AnyJ.takeD (i := 6) (d := some 72) (v := undef) rfl (by kernel_rfl) (by kernel_rfl) (by kernel_rfl) (by kernel_rfl) (by kernel_rfl) (fun _ _ _ h => h) (Or.inr ⟨by kernel_rfl, rfl⟩) hS5 ?_
            refine AnyJ.takeD (i := 7) (d := some 73) (v := undef) rfl (by kernel_rfl) (by kernel_rfl) (by kernel_rfl) (by kernel_rfl) (by kernel_rfl) (fun _ _ _ h => h) (Or.inr ⟨by kernel_rfl, rfl⟩) hS5 ?_
            refine AnyJ.takeD (i := 8) (d := some 74) (v := undef) rfl (by kernel_rfl) (by kernel_rfl) (by kernel_rfl) (by kernel_rfl) (by kernel_rfl) (fun _ _ _ h => h) (Or.inr ⟨by kernel_rfl, rfl⟩) hS5 ?_
            refine AnyJ.takeD (i := 9) (d := some 75) (v := undef) rfl (by kernel_rfl) (by kernel_rfl) (by kernel_rfl) (by kernel_rfl) (by kernel_rfl) (fun _ _ _ h => h) (Or.inr ⟨by kernel_rfl, rfl⟩) hS5 ?_
            refine AnyJ.takeD (i := 10) (d := some 76) (v := undef) rfl (by kernel_rfl) (by kernel_rfl) (by kernel_rfl) (by kernel_rfl) (by kernel_rfl) (fun _ _ _ h => h) (Or.inr ⟨by kernel_rfl, rfl⟩) hS5 ?_
            refine AnyJ.takeD (i := 11) (d := some 77) (v := undef) rfl (by kernel_rfl) (by kernel_rfl) (by kernel_rfl) (by kernel_rfl) (by kernel_rfl) (fun _ _ _ h => h) (Or.inr ⟨by kernel_rfl, rfl⟩) hS5 ?_
            refine AnyJ.takeD (i := 12) (d := some 78) (v := undef) rfl (by kernel_rfl) (by kernel_rfl) (by kernel_rfl) (by kernel_rfl) (by kernel_rfl) (fun _ _ _ h => h) (Or.inr ⟨by kernel_rfl, rfl⟩) hS5 ?_
            refine AnyJ.takeD (i := 13) (d := some 79) (v := undef) rfl (by kernel_rfl) (by kernel_rfl) (by kernel_rfl) (by kernel_rfl) (by kernel_rfl) (fun _ _ _ h => h) (Or.inr ⟨by kernel_rfl, rfl⟩) hS5 ?_
            refine AnyJ.takeD (i := 14) (d := some 80) (v := undef) rfl (by kernel_rfl) (by kernel_rfl) (by kernel_rfl) (by kernel_rfl) (by kernel_rfl) (fun _ _ _ h => h) (Or.inr ⟨by kernel_rfl, rfl⟩) hS5 ?_
            refine AnyJ.takeD (i := 15) (d := some 81) (v := ?_) rfl (by kernel_rfl) (by kernel_rfl) (by kernel_rfl) (by kernel_rfl) (by kernel_rfl) (fun _ _ _ h => h) (Or.inl ⟨by kernel_rfl, ?_⟩) hS5 ?_
            rotate_left
            · intro w' hS
              clear hS
              go_simp
              try with_reducible rfl
            refine AnyJ.takeD (i := 16) (d := some 12) (v := ?_) rfl (by kernel_rfl) (by kernel_rfl) (by kernel_rfl) (by kernel_rfl) (by kernel_rfl) (fun _ _ _ h => h) (Or.inl ⟨by kernel_rfl, ?_⟩) hS5 ?_
            rotate_left
            · intro w' hS
              clear hS
              go_simp
              try with_reducible rfl
            refine AnyJ.done (by kernel_rfl) ?_ _
            clear hS5
            simp only [Act.put, List.setIfInBounds_toArray, List.set_cons_zero, List.set_cons_succ]
            go_wp2_with fail
            go_roundw
            case rel => exact ⟨k + 1, true, by omega, by omega, congrArg (Value.int .i64) (by omega), rfl, HSU, (by show Below _ _ _; exact hbk5.drew)⟩
            case measure => simp [intOf]; omega
          | false =>
            by_cases hzL : L ≤ z
            · have HSV : Hid (fullB L a (k + 1) B.picked = true) := by show _ = _; rw [HSU.out]; simp [hzL]
              go_wp2_with fail
              refine AnyJ.beginP (fun w' : World => w'.cell? ⟨w.heap.size, 0, none⟩ = some (.int .i64 B.id) ∧ w'.cell? ⟨w.heap.size, 1, none⟩ = some (.int .i64 B.kind) ∧ w'.cell? ⟨w.heap.size, 2, none⟩ = some (.int .i64 B.rooms) ∧ w'.cell? ⟨w.heap.size, 3, none⟩ = some (.int .i64 B.fr) ∧ w'.cell? ⟨w.heap.size, 4, none⟩ = some (.int .i64 B.un) ∧ w'.cell? ⟨w.heap.size, 5, none⟩ = some (.slice ca cn cc) ∧ w'.cell? ⟨w.heap.size, 6, none⟩ = some (.int .i64 B.pn) ∧ w'.cell? ⟨w.heap.size, 7, none⟩ = some (.int .i64 B.pd) ∧ w'.cell? ⟨w.heap.size, 8, none⟩ = some (.int .i64 B.fee) ∧ w'.cell? ⟨w.heap.size, 9, none⟩ = some (.slice (some ⟨bb, off, none⟩) pm pc) ∧ w'.cell? ⟨w.heap.size + 1, 0, none⟩ = some (.int .i64 (s0)) ∧ w'.cell? ⟨w.heap.size + 1, 1, none⟩ = some (.int .i64 (s1)) ∧ w'.cell? ⟨w3.heap.size, 0, none⟩ = some (.int .i64 0) ∧ w'.cell? ⟨w3.heap.size, 1, none⟩ = some (.int .i64 0) ∧ w'.cell? ⟨w3.heap.size, 2, none⟩ = some (.int .i64 0) ∧ w'.cell? ⟨w3.heap.size, 3, none⟩ = some (.int .i64 0) ∧ w'.cell? ⟨w3.heap.size, 4, none⟩ = some (.int .i64 0) ∧ w'.cell? ⟨w3.heap.size, 5, none⟩ = some (.slice none 0 0) ∧ w'.cell? ⟨w3.heap.size, 6, none⟩ = some (.int .i64 0) ∧ w'.cell? ⟨w3.heap.size, 7, none⟩ = some (.int .i64 0) ∧ w'.cell? ⟨w3.heap.size, 8, none⟩ = some (.int .i64 0) ∧ w'.cell? ⟨w3.heap.size, 9, none⟩ = some (.slice none 0 0) ∧ w'.cell? ⟨bb, (off + k), none⟩ = some (.int .i64 z)) (fun _ => true) (by kernel_rfl) ?_ (fun hS5 => ?_)
              · exact (show ∀ (P S : World → Prop) (W : World), P W → (∀ w', P w' → S w') → S W from fun P S W h f => f W h) (fun w' : World => Row w' (w.heap.size) [.int .i64 B.id, .int .i64 B.kind, .int .i64 B.rooms, .int .i64 B.fr, .int .i64 B.un, .slice ca cn cc, .int .i64 B.pn, .int .i64 B.pd, .int .i64 B.fee, .slice (some ⟨bb, off, none⟩) pm pc] ∧ Row w' (w.heap.size + 1) [.int .i64 (s0), .int .i64 (s1)] ∧ Row w' (w3.heap.size) [.int .i64 0, .int .i64 0, .int .i64 0, .int .i64 0, .int .i64 0, .slice none 0 0, .int .i64 0, .int .i64 0, .int .i64 0, .slice none 0 0] ∧ w'.cell? ⟨bb, (off + k), none⟩ = some (.int .i64 z)) (fun w' : World => w'.cell? ⟨w.heap.size, 0, none⟩ = some (.int .i64 B.id) ∧ w'.cell? ⟨w.heap.size, 1, none⟩ = some (.int .i64 B.kind) ∧ w'.cell? ⟨w.heap.size, 2, none⟩ = some (.int .i64 B.rooms) ∧ w'.cell? ⟨w.heap.size, 3, none⟩ = some (.int .i64 B.fr) ∧ w'.cell? ⟨w.heap.size, 4, none⟩ = some (.int .i64 B.un) ∧ w'.cell? ⟨w.heap.size, 5, none⟩ = some (.slice ca cn cc) ∧ w'.cell? ⟨w.heap.size, 6, none⟩ = some (.int .i64 B.pn) ∧ w'.cell? ⟨w.heap.size, 7, none⟩ = some (.int .i64 B.pd) ∧ w'.cell? ⟨w.heap.size, 8, none⟩ = some (.int .i64 B.fee) ∧ w'.cell? ⟨w.heap.size, 9, none⟩ = some (.slice (some ⟨bb, off, none⟩) pm pc) ∧ w'.cell? ⟨w.heap.size + 1, 0, none⟩ = some (.int .i64 (s0)) ∧ w'.cell? ⟨w.heap.size + 1, 1, none⟩ = some (.int .i64 (s1)) ∧ w'.cell? ⟨w3.heap.size, 0, none⟩ = some (.int .i64 0) ∧ w'.cell? ⟨w3.heap.size, 1, none⟩ = some (.int .i64 0) ∧ w'.cell? ⟨w3.heap.size, 2, none⟩ = some (.int .i64 0) ∧ w'.cell? ⟨w3.heap.size, 3, none⟩ = some (.int .i64 0) ∧ w'.cell? ⟨w3.heap.size, 4, none⟩ = some (.int .i64 0) ∧ w'.cell? ⟨w3.heap.size, 5, none⟩ = some (.slice none 0 0) ∧ w'.cell? ⟨w3.heap.size, 6, none⟩ = some (.int .i64 0) ∧ w'.cell? ⟨w3.heap.size, 7, none⟩ = some (.int .i64 0) ∧ w'.cell? ⟨w3.heap.size, 8, none⟩ = some (.int .i64 0) ∧ w'.cell? ⟨w3.heap.size, 9, none⟩ = some (.slice none 0 0) ∧ w'.cell? ⟨bb, (off + k), none⟩ = some (.int .i64 z)) _ (⟨by (repeat' (first | (with_reducible assumption) | (with_reducible refine Row.new' _ _ _ (by first | rfl | (simp; done) | omega)) | (with_reducible refine Row.alloc ?_ _) | (with_reducible refine Row.drew ?_) | (with_reducible refine Row.drewN ?_ _) | (with_reducible refine Row.step ?_ (by with_reducible assumption)) | (with_reducible refine Row.set2' ?_ _ _; first | exact ⟨_, _, by with_reducible assumption⟩ | exact ⟨_, _, Row.alloc (by with_reducible assumption) _⟩ | exact ⟨_, _, Row.alloc (Row.alloc (by with_reducible assumption) _) _⟩) | (with_reducible refine Row.other ?_ (by first | omega | (simp; done) | (simp; omega)) _))), by (repeat' (first | (with_reducible assumption) | (with_reducible refine Row.new' _ _ _ (by first | rfl | (simp; done) | omega)) | (with_reducible refine Row.alloc ?_ _) | (with_reducible refine Row.drew ?_) | (with_reducible refine Row.drewN ?_ _) | (with_reducible refine Row.step ?_ (by with_reducible assumption)) | (with_reducible refine Row.set2' ?_ _ _; first | exact ⟨_, _, by with_reducible assumption⟩ | exact ⟨_, _, Row.alloc (by with_reducible assumption) _⟩ | exact ⟨_, _, Row.alloc (Row.alloc (by with_reducible assumption) _) _⟩) | (with_reducible refine Row.other ?_ (by first | omega | (simp; done) | (simp; omega)) _))), by (repeat' (first | (with_reducible assumption) | (with_reducible refine Row.new' _ _ _ (by first | rfl | (simp; done) | omega)) | (with_reducible refine Row.alloc ?_ _) | (with_reducible refine Row.drew ?_) | (with_reducible refine Row.drewN ?_ _) | (with_reducible refine Row.step ?_ (by with_reducible assumption)) | (with_reducible refine Row.set2' ?_ _ _; first | exact ⟨_, _, by with_reducible assumption⟩ | exact ⟨_, _, Row.alloc (by with_reducible assumption) _⟩ | exact ⟨_, _, Row.alloc (Row.alloc (by with_reducible assumption) _) _⟩) | (with_reducible refine Row.other ?_ (by first | omega | (simp; done) | (simp; omega)) _))), CellAt.out (by (repeat' (first | (with_reducible assumption) | (with_reducible refine CellAt.drew ?_) | (with_reducible refine CellAt.drewN ?_ _) | (with_reducible refine CellAt.alloc ?_ _) | (with_reducible refine CellAt.step ?_ (by with_reducible assumption)))))⟩) (fun w' ⟨hP0, hP1, hP2, hF0⟩ => ⟨hP0.cell 0 rfl, hP0.cell 1 rfl, hP0.cell 2 rfl, hP0.cell 3 rfl, hP0.cell 4 rfl, hP0.cell 5 rfl, hP0.cell 6 rfl, hP0.cell 7 rfl, hP0.cell 8 rfl, hP0.cell 9 rfl, hP1.cell 0 rfl, hP1.cell 1 rfl, hP2.cell 0 rfl, hP2.cell 1 rfl, hP2.cell 2 rfl, hP2.cell 3 rfl, hP2.cell 4 rfl, hP2.cell 5 rfl, hP2.cell 6 rfl, hP2.cell 7 rfl, hP2.cell 8 rfl, hP2.cell 9 rfl, hF0⟩)
              refine AnyJ.takeD (i := 0) (d := some 66) (v := ?_) rfl (by kernel_rfl) (by kernel_rfl) (by kernel_rfl) (by kernel_rfl) (by kernel_rfl) (fun _ _ _ h => h) (Or.inl ⟨by kernel_rfl, ?_⟩) hS5 ?_
              rotate_left
              · intro w' hS
                clear hS
                go_simp
                try with_reducible rfl
              refine AnyJ.takeD (i := 1) (d := some 67) (v := ?_) rfl (by kernel_rfl) (by kernel_rfl) (by kernel_rfl) (by kernel_rfl) (by kernel_rfl) (fun _ _ _ h => h) (Or.inl ⟨by kernel_rfl, ?_⟩) hS5 ?_
              rotate_left
              · intro w' hS
                clear hS
                go_simp
                try with_reducible rfl
              refine AnyJ.takeD (i := 2) (d := some 68) (v := ?_) rfl (by kernel_rfl) (by kernel_rfl) (by kernel_rfl) (by kernel_rfl) (by kernel_rfl) (fun _ _ _ h => h) (Or.inl ⟨by kernel_rfl, ?_⟩) hS5 ?_
              rotate_left
              · intro w' hS
                clear hS
                go_simp
                try with_reducible rfl
              refine AnyJ.takeD (i := 3) (d := some 69) (v := ?_) rfl (by kernel_rfl) (by kernel_rfl) (by kernel_rfl) (by kernel_rfl) (by kernel_rfl) (fun _ _ _ h => h) (Or.inl ⟨by kernel_rfl, ?_⟩) hS5 ?_
              rotate_left
              · intro w' hS
                obtain ⟨sF0, sF1, sF2, sF3, sF4, sF5, sF6, sF7, sF8, sF9, sF10, sF11, sF12, sF13, sF14, sF15, sF16, sF17, sF18, sF19, sF20, sF21, sF22⟩ := hS
                go_simp
                try with_reducible rfl
              refine AnyJ.takeD (i := 4) (d := some 70) (v := ?_) rfl (by kernel_rfl) (by kernel_rfl) (by kernel_rfl) (by kernel_rfl) (by kernel_rfl) (fun _ _ _ h => h) (Or.inl ⟨by kernel_rfl, ?_⟩) hS5 ?_
              rotate_left
              · intro w' hS
                clear hS
                go_simp
                try with_reducible rfl
              refine AnyJ.takeD (i := 5) (d := some 71) (v := ?_) rfl (by kernel_rfl) (by kernel_rfl) (by kernel_rfl) (by kernel_rfl) (by kernel_rfl) (fun _ _ _ h => h) (Or.inl ⟨by kernel_rfl, ?_⟩) hS5 ?_
              rotate_left
              · intro w' hS
                clear hS
                go_simp
                try with_reducible rfl
              refine AnyJ.takeD (i := 6) (d := some 72) (v := ?_) rfl (by kernel_rfl) (by kernel_rfl) (by kernel_rfl) (by kernel_rfl) (by kernel_rfl) (fun _ _ _ h => h) (Or.inl ⟨by kernel_rfl, ?_⟩) hS5 ?_
              rotate_left
              · intro w' hS
                clear hS
                go_simp
                try with_reducible rfl
              refine AnyJ.takeD (i := 7) (d := some 73) (v := ?_) rfl (by kernel_rfl) (by kernel_rfl) (by kernel_rfl) (by kernel_rfl) (by kernel_rfl) (fun _ _ _ h => h) (Or.inl ⟨by kernel_rfl, ?_⟩) hS5 ?_
              rotate_left
              · intro w' hS
                obtain ⟨sF0, sF1, sF2, sF3, sF4, sF5, sF6, sF7, sF8, sF9, sF10, sF11, sF12, sF13, sF14, sF15, sF16, sF17, sF18, sF19, sF20, sF21, sF22⟩ := hS
                go_simp
                try with_reducible rfl
              refine AnyJ.takeD (i := 8) (d := some 74) (v := ?_) rfl (by kernel_rfl) (by kernel_rfl) (by kernel_rfl) (by kernel_rfl) (by kernel_rfl) (fun _ _ _ h => h) (Or.inl ⟨by kernel_rfl, ?_⟩) hS5 ?_
              rotate_left
              · intro w' hS
                clear hS
                go_simp
                try with_reducible rfl
              refine AnyJ.takeD (i := 9) (d := some 75) (v := ?_) rfl (by kernel_rfl) (by kernel_rfl) (by kernel_rfl) (by kernel_rfl) (by kernel_rfl) (fun _ _ _ h => h) (Or.inl ⟨by kernel_rfl, ?_⟩) hS5 ?_
              rotate_left
              · intro w' hS
                clear hS
                go_simp
                try with_reducible rfl
              refine AnyJ.takeD (i := 10) (d := some 76) (v := ?_) rfl (by kernel_rfl) (by kernel_rfl) (by kernel_rfl) (by kernel_rfl) (by kernel_rfl) (fun _ _ _ h => h) (Or.inl ⟨by kernel_rfl, ?_⟩) hS5 ?_
              rotate_left
              · intro w' hS
                obtain ⟨sF0, sF1, sF2, sF3, sF4, sF5, sF6, sF7, sF8, sF9, sF10, sF11, sF12, sF13, sF14, sF15, sF16, sF17, sF18, sF19, sF20, sF21, sF22⟩ := hS
                go_simp
                try with_reducible rfl
              refine AnyJ.takeD (i := 11) (d := some 77) (v := ?_) rfl (by kernel_rfl) (by kernel_rfl) (by kernel_rfl) (by kernel_rfl) (by kernel_rfl) (fun _ _ _ h => h) (Or.inl ⟨by kernel_rfl, ?_⟩) hS5 ?_
              rotate_left
              · intro w' hS
                obtain ⟨sF0, sF1, sF2, sF3, sF4, sF5, sF6, sF7, sF8, sF9, sF10, sF11, sF12, sF13, sF14, sF15, sF16, sF17, sF18, sF19, sF20, sF21, sF22⟩ := hS
                go_simp
                try with_reducible rfl
              refine AnyJ.takeD (i := 12) (d := some 78) (v := ?_) rfl (by kernel_rfl) (by kernel_rfl) (by kernel_rfl) (by kernel_rfl) (by kernel_rfl) (fun _ _ _ h => h) (Or.inl ⟨by kernel_rfl, ?_⟩) hS5 ?_
              rotate_left
              · intro w' hS
                clear hS
                go_simp
                try with_reducible rfl
              refine AnyJ.one (i := 13) (by kernel_rfl) rfl (fun Kz hKz => ?_)
              go_simp
              refine (r_limit B day L ca cn cc (some ⟨bb, off, none⟩) pm pc _ (K.step (by (repeat' (first | (with_reducible exact Below.refl _ _) | (with_reducible assumption) | (with_reducible exact Bw.out (by with_reducible assumption)) | (with_reducible refine bw_alloc ?_ _) | (with_reducible refine bw_step ?_ (by with_reducible assumption)) | (with_reducible refine Below.alloc ?_ ?_ _) | (with_reducible refine Below.drew ?_) | (with_reducible refine below_drewN ?_ _) | (with_reducible refine Below.setCell ?_ ?_ _) | (with_reducible refine below_step ?_ (by with_reducible assumption) ?_) | (with_reducible exact Nat.le_refl _) | omega | (simp; omega) | (simp; done))))) HOK.out HL.out).mono ?_
              rintro e w6 ⟨rfl, hb6⟩
              have R_b_6 : Row w6 (w.heap.size) [.int .i64 B.id, .int .i64 B.kind, .int .i64 B.rooms, .int .i64 B.fr, .int .i64 B.un, .slice ca cn cc, .int .i64 B.pn, .int .i64 B.pd, .int .i64 B.fee, .slice (some ⟨bb, off, none⟩) pm pc] := by (repeat' (first | (with_reducible assumption) | (with_reducible refine Row.new' _ _ _ (by first | rfl | (simp; done) | omega)) | (with_reducible refine Row.alloc ?_ _) | (with_reducible refine Row.drew ?_) | (with_reducible refine Row.drewN ?_ _) | (with_reducible refine Row.step ?_ (by with_reducible assumption)) | (with_reducible refine Row.set2' ?_ _ _; first | exact ⟨_, _, by with_reducible assumption⟩ | exact ⟨_, _, Row.alloc (by with_reducible assumption) _⟩ | exact ⟨_, _, Row.alloc (Row.alloc (by with_reducible assumption) _) _⟩) | (with_reducible refine Row.other ?_ (by first | omega | (simp; done) | (simp; omega)) _)))
              have c_b_0_6 := R_b_6.cell 0 rfl
              have c_b_1_6 := R_b_6.cell 1 rfl
              have c_b_2_6 := R_b_6.cell 2 rfl
              have c_b_3_6 := R_b_6.cell 3 rfl
              have c_b_4_6 := R_b_6.cell 4 rfl
              have c_b_5_6 := R_b_6.cell 5 rfl
              have c_b_6_6 := R_b_6.cell 6 rfl
              have c_b_7_6 := R_b_6.cell 7 rfl
              have c_b_8_6 := R_b_6.cell 8 rfl
              have c_b_9_6 := R_b_6.cell 9 rfl
              have l_b_6 := R_b_6.lt
              have R_s_6 : Row w6 (w.heap.size + 1) [.int .i64 (s0), .int .i64 (s1)] := by (repeat' (first | (with_reducible assumption) | (with_reducible refine Row.new' _ _ _ (by first | rfl | (simp; done) | omega)) | (with_reducible refine Row.alloc ?_ _) | (with_reducible refine Row.drew ?_) | (with_reducible refine Row.drewN ?_ _) | (with_reducible refine Row.step ?_ (by with_reducible assumption)) | (with_reducible refine Row.set2' ?_ _ _; first | exact ⟨_, _, by with_reducible assumption⟩ | exact ⟨_, _, Row.alloc (by with_reducible assumption) _⟩ | exact ⟨_, _, Row.alloc (Row.alloc (by with_reducible assumption) _) _⟩) | (with_reducible refine Row.other ?_ (by first | omega | (simp; done) | (simp; omega)) _)))
              have c_s_0_6 := R_s_6.cell 0 rfl
              have c_s_1_6 := R_s_6.cell 1 rfl
              have l_s_6 := R_s_6.lt
              have R_x_6 : Row w6 (w3.heap.size) [.int .i64 0, .int .i64 0, .int .i64 0, .int .i64 0, .int .i64 0, .slice none 0 0, .int .i64 0, .int .i64 0, .int .i64 0, .slice none 0 0] := by (repeat' (first | (with_reducible assumption) | (with_reducible refine Row.new' _ _ _ (by first | rfl | (simp; done) | omega)) | (with_reducible refine Row.alloc ?_ _) | (with_reducible refine Row.drew ?_) | (with_reducible refine Row.drewN ?_ _) | (with_reducible refine Row.step ?_ (by with_reducible assumption)) | (with_reducible refine Row.set2' ?_ _ _; first | exact ⟨_, _, by with_reducible assumption⟩ | exact ⟨_, _, Row.alloc (by with_reducible assumption) _⟩ | exact ⟨_, _, Row.alloc (Row.alloc (by with_reducible assumption) _) _⟩) | (with_reducible refine Row.other ?_ (by first | omega | (simp; done) | (simp; omega)) _)))
              have c_x_0_6 := R_x_6.cell 0 rfl
              have c_x_1_6 := R_x_6.cell 1 rfl
              have c_x_2_6 := R_x_6.cell 2 rfl
              have c_x_3_6 := R_x_6.cell 3 rfl
              have c_x_4_6 := R_x_6.cell 4 rfl
              have c_x_5_6 := R_x_6.cell 5 rfl
              have c_x_6_6 := R_x_6.cell 6 rfl
              have c_x_7_6 := R_x_6.cell 7 rfl
              have c_x_8_6 := R_x_6.cell 8 rfl
              have c_x_9_6 := R_x_6.cell 9 rfl
              have z_x_0_6 := R_x_6.frozen 0
              have z_x_1_6 := R_x_6.frozen 1
              have z_x_2_6 := R_x_6.frozen 2
              have z_x_3_6 := R_x_6.frozen 3
              have z_x_4_6 := R_x_6.frozen 4
              have z_x_5_6 := R_x_6.frozen 5
              have z_x_6_6 := R_x_6.frozen 6
              have z_x_7_6 := R_x_6.frozen 7
              have z_x_8_6 := R_x_6.frozen 8
              have z_x_9_6 := R_x_6.frozen 9
              have l_x_6 := R_x_6.lt
              replace K := K.step (show Below w5.heap.size w5 w6 by (repeat' (first | (with_reducible exact Below.refl _ _) | (with_reducible assumption) | (with_reducible exact Bw.out (by with_reducible assumption)) | (with_reducible refine bw_alloc ?_ _) | (with_reducible refine bw_step ?_ (by with_reducible assumption)) | (with_reducible refine Below.alloc ?_ ?_ _) | (with_reducible refine Below.drew ?_) | (with_reducible refine below_drewN ?_ _) | (with_reducible refine Below.setCell ?_ ?_ _) | (with_reducible refine below_step ?_ (by with_reducible assumption) ?_) | (with_reducible exact Nat.le_refl _) | omega | (simp; omega) | (simp; done))))
              have HB6 : Below w.heap.size w w6 := by (repeat' (first | (with_reducible exact Below.refl _ _) | (with_reducible assumption) | (with_reducible exact Bw.out (by with_reducible assumption)) | (with_reducible refine bw_alloc ?_ _) | (with_reducible refine bw_step ?_ (by with_reducible assumption)) | (with_reducible refine Below.alloc ?_ ?_ _) | (with_reducible refine Below.drew ?_) | (with_reducible refine below_drewN ?_ _) | (with_reducible refine Below.setCell ?_ ?_ _) | (with_reducible refine below_step ?_ (by with_reducible assumption) ?_) | (with_reducible exact Nat.le_refl _) | omega | (simp; omega) | (simp; done)))
              obtain ⟨sF0, sF1, sF2, sF3, sF4, sF5, sF6, sF7, sF8, sF9, sF10, sF11, sF12, sF13, sF14, sF15, sF16, sF17, sF18, sF19, sF20, sF21, sF22⟩ := hS5
              have hS6 : (fun w' : World => w'.cell? ⟨w.heap.size, 0, none⟩ = some (.int .i64 B.id) ∧ w'.cell? ⟨w.heap.size, 1, none⟩ = some (.int .i64 B.kind) ∧ w'.cell? ⟨w.heap.size, 2, none⟩ = some (.int .i64 B.rooms) ∧ w'.cell? ⟨w.heap.size, 3, none⟩ = some (.int .i64 B.fr) ∧ w'.cell? ⟨w.heap.size, 4, none⟩ = some (.int .i64 B.un) ∧ w'.cell? ⟨w.heap.size, 5, none⟩ = some (.slice ca cn cc) ∧ w'.cell? ⟨w.heap.size, 6, none⟩ = some (.int .i64 B.pn) ∧ w'.cell? ⟨w.heap.size, 7, none⟩ = some (.int .i64 B.pd) ∧ w'.cell? ⟨w.heap.size, 8, none⟩ = some (.int .i64 B.fee) ∧ w'.cell? ⟨w.heap.size, 9, none⟩ = some (.slice (some ⟨bb, off, none⟩) pm pc) ∧ w'.cell? ⟨w.heap.size + 1, 0, none⟩ = some (.int .i64 (s0)) ∧ w'.cell? ⟨w.heap.size + 1, 1, none⟩ = some (.int .i64 (s1)) ∧ w'.cell? ⟨w3.heap.size, 0, none⟩ = some (.int .i64 0) ∧ w'.cell? ⟨w3.heap.size, 1, none⟩ = some (.int .i64 0) ∧ w'.cell? ⟨w3.heap.size, 2, none⟩ = some (.int .i64 0) ∧ w'.cell? ⟨w3.heap.size, 3, none⟩ = some (.int .i64 0) ∧ w'.cell? ⟨w3.heap.size, 4, none⟩ = some (.int .i64 0) ∧ w'.cell? ⟨w3.heap.size, 5, none⟩ = some (.slice none 0 0) ∧ w'.cell? ⟨w3.heap.size, 6, none⟩ = some (.int .i64 0) ∧ w'.cell? ⟨w3.heap.size, 7, none⟩ = some (.int .i64 0) ∧ w'.cell? ⟨w3.heap.size, 8, none⟩ = some (.int .i64 0) ∧ w'.cell? ⟨w3.heap.size, 9, none⟩ = some (.slice none 0 0) ∧ w'.cell? ⟨bb, (off + k), none⟩ = some (.int .i64 z)) w6 := ⟨c_b_0_6, c_b_1_6, c_b_2_6, c_b_3_6, c_b_4_6, c_b_5_6, c_b_6_6, c_b_7_6, c_b_8_6, c_b_9_6, c_s_0_6, c_s_1_6, c_x_0_6, c_x_1_6, c_x_2_6, c_x_3_6, c_x_4_6, c_x_5_6, c_x_6_6, c_x_7_6, c_x_8_6, c_x_9_6, (by first | exact (CellAt.step sF22 (by (repeat' (first | (with_reducible exact Below.refl _ _) | (with_reducible assumption) | (with_reducible exact Bw.out (by with_reducible assumption)) | (with_reducible refine bw_alloc ?_ _) | (with_reducible refine bw_step ?_ (by with_reducible assumption)) | (with_reducible refine Below.alloc ?_ ?_ _) | (with_reducible refine Below.drew ?_) | (with_reducible refine below_drewN ?_ _) | (with_reducible refine Below.setCell ?_ ?_ _) | (with_reducible refine below_step ?_ (by with_reducible assumption) ?_) | (with_reducible exact Nat.le_refl _) | omega | (simp; omega) | (simp; done))))).out | exact SlC.step sF22 (by (repeat' (first | (with_reducible exact Below.refl _ _) | (with_reducible assumption) | (with_reducible exact Bw.out (by with_reducible assumption)) | (with_reducible refine bw_alloc ?_ _) | (with_reducible refine bw_step ?_ (by with_reducible assumption)) | (with_reducible refine Below.alloc ?_ ?_ _) | (with_reducible refine Below.drew ?_) | (with_reducible refine below_drewN ?_ _) | (with_reducible refine Below.setCell ?_ ?_ _) | (with_reducible refine below_step ?_ (by with_reducible assumption) ?_) | (with_reducible exact Nat.le_refl _) | omega | (simp; omega) | (simp; done)))))⟩
              clear sF0 sF1 sF2 sF3 sF4 sF5 sF6 sF7 sF8 sF9 sF10 sF11 sF12 sF13 sF14 sF15 sF16 sF17 sF18 sF19 sF20 sF21 sF22
              refine hKz _ _ (fun _ => hS6) ?_
              clear hKz Kz
              clear R_b_5 c_b_0_5 c_b_1_5 c_b_2_5 c_b_3_5 c_b_4_5 c_b_5_5 c_b_6_5 c_b_7_5 c_b_8_5 c_b_9_5 R_s_5 c_s_0_5 c_s_1_5 R_x_5 c_x_0_5 c_x_1_5 c_x_2_5 c_x_3_5 c_x_4_5 c_x_5_5 c_x_6_5 c_x_7_5 c_x_8_5 c_x_9_5 z_x_0_5 z_x_1_5 z_x_2_5 z_x_3_5 z_x_4_5 z_x_5_5 z_x_6_5 z_x_7_5 z_x_8_5 z_x_9_5 hb5 HB5
              refine AnyJ.takeD (i := 14) (d := some 80) (v := ?_) rfl (by kernel_rfl) (by kernel_rfl) (by kernel_rfl) (by kernel_rfl) (by kernel_rfl) (fun _ _ _ h => h) (Or.inl ⟨by kernel_rfl, ?_⟩) hS6 ?_
              rotate_left
              · intro w' hS
                clear hS
                go_simp
                try with_reducible rfl
              refine AnyJ.takeD (i := 15) (d := some 81) (v := ?_) rfl (by kernel_rfl) (by kernel_rfl) (by kernel_rfl) (by kernel_rfl) (by kernel_rfl) (fun _ _ _ h => h) (Or.inl ⟨by kernel_rfl, ?_⟩) hS6 ?_
              rotate_left
              · intro w' hS
                clear hS
                go_simp
                try with_reducible rfl
              refine AnyJ.takeD (i := 16) (d := some 12) (v := ?_) rfl (by kernel_rfl) (by kernel_rfl) (by kernel_rfl) (by kernel_rfl) (by kernel_rfl) (fun _ _ _ h => h) (Or.inl ⟨by kernel_rfl, ?_⟩) hS6 ?_
              rotate_left
              · intro w' hS
                clear hS
                go_simp
                try with_reducible rfl
              refine AnyJ.done (by kernel_rfl) ?_ _
              clear hS6
              simp only [Act.put, List.setIfInBounds_toArray, List.set_cons_zero, List.set_cons_succ]
              go_wp2_with fail
              go_roundw
              case rel => exact ⟨k + 1, true, by omega, by omega, congrArg (Value.int .i64) (by omega), (by first | rfl | exact congrArg Value.bool (by simp; omega)), HSV, (by show Below _ _ _; exact hbk5.drew.trans (hb6.mono hbk5.size))⟩
              case measure => simp [intOf]; omega
            · have HSV : Hid (fullB L a (k + 1) B.picked = false) := by show _ = _; rw [HSU.out]; simp [hzL]
              have hzL2 : z < L := by omega
              clear hzL
              go_wp2_with fail
              refine AnyJ.beginP (fun w' : World => w'.cell? ⟨w.heap.size, 0, none⟩ = some (.int .i64 B.id) ∧ w'.cell? ⟨w.heap.size, 1, none⟩ = some (.int .i64 B.kind) ∧ w'.cell? ⟨w.heap.size, 2, none⟩ = some (.int .i64 B.rooms) ∧ w'.cell? ⟨w.heap.size, 3, none⟩ = some (.int .i64 B.fr) ∧ w'.cell? ⟨w.heap.size, 4, none⟩ = some (.int .i64 B.un) ∧ w'.cell? ⟨w.heap.size, 5, none⟩ = some (.slice ca cn cc) ∧ w'.cell? ⟨w.heap.size, 6, none⟩ = some (.int .i64 B.pn) ∧ w'.cell? ⟨w.heap.size, 7, none⟩ = some (.int .i64 B.pd) ∧ w'.cell? ⟨w.heap.size, 8, none⟩ = some (.int .i64 B.fee) ∧ w'.cell? ⟨w.heap.size, 9, none⟩ = some (.slice (some ⟨bb, off, none⟩) pm pc) ∧ w'.cell? ⟨w.heap.size + 1, 0, none⟩ = some (.int .i64 (s0)) ∧ w'.cell? ⟨w.heap.size + 1, 1, none⟩ = some (.int .i64 (s1)) ∧ w'.cell? ⟨w3.heap.size, 0, none⟩ = some (.int .i64 0) ∧ w'.cell? ⟨w3.heap.size, 1, none⟩ = some (.int .i64 0) ∧ w'.cell? ⟨w3.heap.size, 2, none⟩ = some (.int .i64 0) ∧ w'.cell? ⟨w3.heap.size, 3, none⟩ = some (.int .i64 0) ∧ w'.cell? ⟨w3.heap.size, 4, none⟩ = some (.int .i64 0) ∧ w'.cell? ⟨w3.heap.size, 5, none⟩ = some (.slice none 0 0) ∧ w'.cell? ⟨w3.heap.size, 6, none⟩ = some (.int .i64 0) ∧ w'.cell? ⟨w3.heap.size, 7, none⟩ = some (.int .i64 0) ∧ w'.cell? ⟨w3.heap.size, 8, none⟩ = some (.int .i64 0) ∧ w'.cell? ⟨w3.heap.size, 9, none⟩ = some (.slice none 0 0) ∧ w'.cell? ⟨bb, (off + k), none⟩ = some (.int .i64 z)) (fun _ => true) (by kernel_rfl) ?_ (fun hS5 => ?_)
              · exact (show ∀ (P S : World → Prop) (W : World), P W → (∀ w', P w' → S w') → S W from fun P S W h f => f W h) (fun w' : World => Row w' (w.heap.size) [.int .i64 B.id, .int .i64 B.kind, .int .i64 B.rooms, .int .i64 B.fr, .int .i64 B.un, .slice ca cn cc, .int .i64 B.pn, .int .i64 B.pd, .int .i64 B.fee, .slice (some ⟨bb, off, none⟩) pm pc] ∧ Row w' (w.heap.size + 1) [.int .i64 (s0), .int .i64 (s1)] ∧ Row w' (w3.heap.size) [.int .i64 0, .int .i64 0, .int .i64 0, .int .i64 0, .int .i64 0, .slice none 0 0, .int .i64 0, .int .i64 0, .int .i64 0, .slice none 0 0] ∧ w'.cell? ⟨bb, (off + k), none⟩ = some (.int .i64 z)) (fun w' : World => w'.cell? ⟨w.heap.size, 0, none⟩ = some (.int .i64 B.id) ∧ w'.cell? ⟨w.heap.size, 1, none⟩ = some (.int .i64 B.kind) ∧ w'.cell? ⟨w.heap.size, 2, none⟩ = some (.int .i64 B.rooms) ∧ w'.cell? ⟨w.heap.size, 3, none⟩ = some (.int .i64 B.fr) ∧ w'.cell? ⟨w.heap.size, 4, none⟩ = some (.int .i64 B.un) ∧ w'.cell? ⟨w.heap.size, 5, none⟩ = some (.slice ca cn cc) ∧ w'.cell? ⟨w.heap.size, 6, none⟩ = some (.int .i64 B.pn) ∧ w'.cell? ⟨w.heap.size, 7, none⟩ = some (.int .i64 B.pd) ∧ w'.cell? ⟨w.heap.size, 8, none⟩ = some (.int .i64 B.fee) ∧ w'.cell? ⟨w.heap.size, 9, none⟩ = some (.slice (some ⟨bb, off, none⟩) pm pc) ∧ w'.cell? ⟨w.heap.size + 1, 0, none⟩ = some (.int .i64 (s0)) ∧ w'.cell? ⟨w.heap.size + 1, 1, none⟩ = some (.int .i64 (s1)) ∧ w'.cell? ⟨w3.heap.size, 0, none⟩ = some (.int .i64 0) ∧ w'.cell? ⟨w3.heap.size, 1, none⟩ = some (.int .i64 0) ∧ w'.cell? ⟨w3.heap.size, 2, none⟩ = some (.int .i64 0) ∧ w'.cell? ⟨w3.heap.size, 3, none⟩ = some (.int .i64 0) ∧ w'.cell? ⟨w3.heap.size, 4, none⟩ = some (.int .i64 0) ∧ w'.cell? ⟨w3.heap.size, 5, none⟩ = some (.slice none 0 0) ∧ w'.cell? ⟨w3.heap.size, 6, none⟩ = some (.int .i64 0) ∧ w'.cell? ⟨w3.heap.size, 7, none⟩ = some (.int .i64 0) ∧ w'.cell? ⟨w3.heap.size, 8, none⟩ = some (.int .i64 0) ∧ w'.cell? ⟨w3.heap.size, 9, none⟩ = some (.slice none 0 0) ∧ w'.cell? ⟨bb, (off + k), none⟩ = some (.int .i64 z)) _ (⟨by (repeat' (first | (with_reducible assumption) | (with_reducible refine Row.new' _ _ _ (by first | rfl | (simp; done) | omega)) | (with_reducible refine Row.alloc ?_ _) | (with_reducible refine Row.drew ?_) | (with_reducible refine Row.drewN ?_ _) | (with_reducible refine Row.step ?_ (by with_reducible assumption)) | (with_reducible refine Row.set2' ?_ _ _; first | exact ⟨_, _, by with_reducible assumption⟩ | exact ⟨_, _, Row.alloc (by with_reducible assumption) _⟩ | exact ⟨_, _, Row.alloc (Row.alloc (by with_reducible assumption) _) _⟩) | (with_reducible refine Row.other ?_ (by first | omega | (simp; done) | (simp; omega)) _))), by (repeat' (first | (with_reducible assumption) | (with_reducible refine Row.new' _ _ _ (by first | rfl | (simp; done) | omega)) | (with_reducible refine Row.alloc ?_ _) | (with_reducible refine Row.drew ?_) | (with_reducible refine Row.drewN ?_ _) | (with_reducible refine Row.step ?_ (by with_reducible assumption)) | (with_reducible refine Row.set2' ?_ _ _; first | exact ⟨_, _, by with_reducible assumption⟩ | exact ⟨_, _, Row.alloc (by with_reducible assumption) _⟩ | exact ⟨_, _, Row.alloc (Row.alloc (by with_reducible assumption) _) _⟩) | (with_reducible refine Row.other ?_ (by first | omega | (simp; done) | (simp; omega)) _))), by (repeat' (first | (with_reducible assumption) | (with_reducible refine Row.new' _ _ _ (by first | rfl | (simp; done) | omega)) | (with_reducible refine Row.alloc ?_ _) | (with_reducible refine Row.drew ?_) | (with_reducible refine Row.drewN ?_ _) | (with_reducible refine Row.step ?_ (by with_reducible assumption)) | (with_reducible refine Row.set2' ?_ _ _; first | exact ⟨_, _, by with_reducible assumption⟩ | exact ⟨_, _, Row.alloc (by with_reducible assumption) _⟩ | exact ⟨_, _, Row.alloc (Row.alloc (by with_reducible assumption) _) _⟩) | (with_reducible refine Row.other ?_ (by first | omega | (simp; done) | (simp; omega)) _))), CellAt.out (by (repeat' (first | (with_reducible assumption) | (with_reducible refine CellAt.drew ?_) | (with_reducible refine CellAt.drewN ?_ _) | (with_reducible refine CellAt.alloc ?_ _) | (with_reducible refine CellAt.step ?_ (by with_reducible assumption)))))⟩) (fun w' ⟨hP0, hP1, hP2, hF0⟩ => ⟨hP0.cell 0 rfl, hP0.cell 1 rfl, hP0.cell 2 rfl, hP0.cell 3 rfl, hP0.cell 4 rfl, hP0.cell 5 rfl, hP0.cell 6 rfl, hP0.cell 7 rfl, hP0.cell 8 rfl, hP0.cell 9 rfl, hP1.cell 0 rfl, hP1.cell 1 rfl, hP2.cell 0 rfl, hP2.cell 1 rfl, hP2.cell 2 rfl, hP2.cell 3 rfl, hP2.cell 4 rfl, hP2.cell 5 rfl, hP2.cell 6 rfl, hP2.cell 7 rfl, hP2.cell 8 rfl, hP2.cell 9 rfl, hF0⟩)
              refine AnyJ.takeD (i := 0) (d := some 66) (v := ?_) rfl (by kernel_rfl) (by kernel_rfl) (by kernel_rfl) (by kernel_rfl) (by kernel_rfl) (fun _ _ _ h => h) (Or.inl ⟨by kernel_rfl, ?_⟩) hS5 ?_
              rotate_left
              · intro w' hS
                clear hS
                go_simp
                try with_reducible rfl
              refine AnyJ.takeD (i := 1) (d := some 67) (v := ?_) rfl (by kernel_rfl) (by kernel_rfl) (by kernel_rfl) (by kernel_rfl) (by kernel_rfl) (fun _ _ _ h => h) (Or.inl ⟨by kernel_rfl, ?_⟩) hS5 ?_
              rotate_left
              · intro w' hS
                clear hS
                go_simp
                try with_reducible rfl
              refine AnyJ.takeD (i := 2) (d := some 68) (v := ?_) rfl (by kernel_rfl) (by kernel_rfl) (by kernel_rfl) (by kernel_rfl) (by kernel_rfl) (fun _ _ _ h => h) (Or.inl ⟨by kernel_rfl, ?_⟩) hS5 ?_
              rotate_left
              · intro w' hS
                clear hS
                go_simp
                try with_reducible rfl
              refine AnyJ.takeD (i := 3) (d := some 69) (v := ?_) rfl (by kernel_rfl) (by kernel_rfl) (by kernel_rfl) (by kernel_rfl) (by kernel_rfl) (fun _ _ _ h => h) (Or.inl ⟨by kernel_rfl, ?_⟩) hS5 ?_
              rotate_left
              · intro w' hS
                obtain ⟨sF0, sF1, sF2, sF3, sF4, sF5, sF6, sF7, sF8, sF9, sF10, sF11, sF12, sF13, sF14, sF15, sF16, sF17, sF18, sF19, sF20, sF21, sF22⟩ := hS
                go_simp
                try with_reducible rfl
              refine AnyJ.takeD (i := 4) (d := some 70) (v := ?_) rfl (by kernel_rfl) (by kernel_rfl) (by kernel_rfl) (by kernel_rfl) (by kernel_rfl) (fun _ _ _ h => h) (Or.inl ⟨by kernel_rfl, ?_⟩) hS5 ?_
              rotate_left
              · intro w' hS
                clear hS
                go_simp
                try with_reducible rfl
              refine AnyJ.takeD (i := 5) (d := some 71) (v := ?_) rfl (by kernel_rfl) (by kernel_rfl) (by kernel_rfl) (by kernel_rfl) (by kernel_rfl) (fun _ _ _ h => h) (Or.inl ⟨by kernel_rfl, ?_⟩) hS5 ?_
              rotate_left
              · intro w' hS
                clear hS
                go_simp
                try with_reducible rfl
              refine AnyJ.takeD (i := 6) (d := some 72) (v := ?_) rfl (by kernel_rfl) (by kernel_rfl) (by kernel_rfl) (by kernel_rfl) (by kernel_rfl) (fun _ _ _ h => h) (Or.inl ⟨by kernel_rfl, ?_⟩) hS5 ?_
              rotate_left
              · intro w' hS
                clear hS
                go_simp
                try with_reducible rfl
              refine AnyJ.takeD (i := 7) (d := some 73) (v := ?_) rfl (by kernel_rfl) (by kernel_rfl) (by kernel_rfl) (by kernel_rfl) (by kernel_rfl) (fun _ _ _ h => h) (Or.inl ⟨by kernel_rfl, ?_⟩) hS5 ?_
              rotate_left
              · intro w' hS
                obtain ⟨sF0, sF1, sF2, sF3, sF4, sF5, sF6, sF7, sF8, sF9, sF10, sF11, sF12, sF13, sF14, sF15, sF16, sF17, sF18, sF19, sF20, sF21, sF22⟩ := hS
                go_simp
                try with_reducible rfl
              refine AnyJ.takeD (i := 8) (d := some 74) (v := ?_) rfl (by kernel_rfl) (by kernel_rfl) (by kernel_rfl) (by kernel_rfl) (by kernel_rfl) (fun _ _ _ h => h) (Or.inl ⟨by kernel_rfl, ?_⟩) hS5 ?_
              rotate_left
              · intro w' hS
                clear hS
                go_simp
                try with_reducible rfl
              refine AnyJ.takeD (i := 9) (d := some 75) (v := ?_) rfl (by kernel_rfl) (by kernel_rfl) (by kernel_rfl) (by kernel_rfl) (by kernel_rfl) (fun _ _ _ h => h) (Or.inl ⟨by kernel_rfl, ?_⟩) hS5 ?_
              rotate_left
              · intro w' hS
                clear hS
                go_simp
                try with_reducible rfl
              refine AnyJ.takeD (i := 10) (d := some 76) (v := ?_) rfl (by kernel_rfl) (by kernel_rfl) (by kernel_rfl) (by kernel_rfl) (by kernel_rfl) (fun _ _ _ h => h) (Or.inl ⟨by kernel_rfl, ?_⟩) hS5 ?_
              rotate_left
              · intro w' hS
                obtain ⟨sF0, sF1, sF2, sF3, sF4, sF5, sF6, sF7, sF8, sF9, sF10, sF11, sF12, sF13, sF14, sF15, sF16, sF17, sF18, sF19, sF20, sF21, sF22⟩ := hS
                go_simp
                try with_reducible rfl
              refine AnyJ.takeD (i := 11) (d := some 77) (v := ?_) rfl (by kernel_rfl) (by kernel_rfl) (by kernel_rfl) (by kernel_rfl) (by kernel_rfl) (fun _ _ _ h => h) (Or.inl ⟨by kernel_rfl, ?_⟩) hS5 ?_
              rotate_left
              · intro w' hS
                obtain ⟨sF0, sF1, sF2, sF3, sF4, sF5, sF6, sF7, sF8, sF9, sF10, sF11, sF12, sF13, sF14, sF15, sF16, sF17, sF18, sF19, sF20, sF21, sF22⟩ := hS
                go_simp
                try with_reducible rfl
              refine AnyJ.takeD (i := 12) (d := some 78) (v := ?_) rfl (by kernel_rfl) (by kernel_rfl) (by kernel_rfl) (by kernel_rfl) (by kernel_rfl) (fun _ _ _ h => h) (Or.inl ⟨by kernel_rfl, ?_⟩) hS5 ?_
              rotate_left
              · intro w' hS
                clear hS
                go_simp
                try with_reducible rfl
              refine AnyJ.one (i := 13) (by kernel_rfl) rfl (fun Kz hKz => ?_)
              go_simp
              refine (r_limit B day L ca cn cc (some ⟨bb, off, none⟩) pm pc _ (K.step (by (repeat' (first | (with_reducible exact Below.refl _ _) | (with_reducible assumption) | (with_reducible exact Bw.out (by with_reducible assumption)) | (with_reducible refine bw_alloc ?_ _) | (with_reducible refine bw_step ?_ (by with_reducible assumption)) | (with_reducible refine Below.alloc ?_ ?_ _) | (with_reducible refine Below.drew ?_) | (with_reducible refine below_drewN ?_ _) | (with_reducible refine Below.setCell ?_ ?_ _) | (with_reducible refine below_step ?_ (by with_reducible assumption) ?_) | (with_reducible exact Nat.le_refl _) | omega | (simp; omega) | (simp; done))))) HOK.out HL.out).mono ?_
              rintro e w6 ⟨rfl, hb6⟩
              have R_b_6 : Row w6 (w.heap.size) [.int .i64 B.id, .int .i64 B.kind, .int .i64 B.rooms, .int .i64 B.fr, .int .i64 B.un, .slice ca cn cc, .int .i64 B.pn, .int .i64 B.pd, .int .i64 B.fee, .slice (some ⟨bb, off, none⟩) pm pc] := by (repeat' (first | (with_reducible assumption) | (with_reducible refine Row.new' _ _ _ (by first | rfl | (simp; done) | omega)) | (with_reducible refine Row.alloc ?_ _) | (with_reducible refine Row.drew ?_) | (with_reducible refine Row.drewN ?_ _) | (with_reducible refine Row.step ?_ (by with_reducible assumption)) | (with_reducible refine Row.set2' ?_ _ _; first | exact ⟨_, _, by with_reducible assumption⟩ | exact ⟨_, _, Row.alloc (by with_reducible assumption) _⟩ | exact ⟨_, _, Row.alloc (Row.alloc (by with_reducible assumption) _) _⟩) | (with_reducible refine Row.other ?_ (by first | omega | (simp; done) | (simp; omega)) _)))
              have c_b_0_6 := R_b_6.cell 0 rfl
              have c_b_1_6 := R_b_6.cell 1 rfl
              have c_b_2_6 := R_b_6.cell 2 rfl
              have c_b_3_6 := R_b_6.cell 3 rfl
              have c_b_4_6 := R_b_6.cell 4 rfl
              have c_b_5_6 := R_b_6.cell 5 rfl
              have c_b_6_6 := R_b_6.cell 6 rfl
              have c_b_7_6 := R_b_6.cell 7 rfl
              have c_b_8_6 := R_b_6.cell 8 rfl
              have c_b_9_6 := R_b_6.cell 9 rfl
              have l_b_6 := R_b_6.lt
              have R_s_6 : Row w6 (w.heap.size + 1) [.int .i64 (s0), .int .i64 (s1)] := by (repeat' (first | (with_reducible assumption) | (with_reducible refine Row.new' _ _ _ (by first | rfl | (simp; done) | omega)) | (with_reducible refine Row.alloc ?_ _) | (with_reducible refine Row.drew ?_) | (with_reducible refine Row.drewN ?_ _) | (with_reducible refine Row.step ?_ (by with_reducible assumption)) | (with_reducible refine Row.set2' ?_ _ _; first | exact ⟨_, _, by with_reducible assumption⟩ | exact ⟨_, _, Row.alloc (by with_reducible assumption) _⟩ | exact ⟨_, _, Row.alloc (Row.alloc (by with_reducible assumption) _) _⟩) | (with_reducible refine Row.other ?_ (by first | omega | (simp; done) | (simp; omega)) _)))
              have c_s_0_6 := R_s_6.cell 0 rfl
              have c_s_1_6 := R_s_6.cell 1 rfl
              have l_s_6 := R_s_6.lt
              have R_x_6 : Row w6 (w3.heap.size) [.int .i64 0, .int .i64 0, .int .i64 0, .int .i64 0, .int .i64 0, .slice none 0 0, .int .i64 0, .int .i64 0, .int .i64 0, .slice none 0 0] := by (repeat' (first | (with_reducible assumption) | (with_reducible refine Row.new' _ _ _ (by first | rfl | (simp; done) | omega)) | (with_reducible refine Row.alloc ?_ _) | (with_reducible refine Row.drew ?_) | (with_reducible refine Row.drewN ?_ _) | (with_reducible refine Row.step ?_ (by with_reducible assumption)) | (with_reducible refine Row.set2' ?_ _ _; first | exact ⟨_, _, by with_reducible assumption⟩ | exact ⟨_, _, Row.alloc (by with_reducible assumption) _⟩ | exact ⟨_, _, Row.alloc (Row.alloc (by with_reducible assumption) _) _⟩) | (with_reducible refine Row.other ?_ (by first | omega | (simp; done) | (simp; omega)) _)))
              have c_x_0_6 := R_x_6.cell 0 rfl
              have c_x_1_6 := R_x_6.cell 1 rfl
              have c_x_2_6 := R_x_6.cell 2 rfl
              have c_x_3_6 := R_x_6.cell 3 rfl
              have c_x_4_6 := R_x_6.cell 4 rfl
              have c_x_5_6 := R_x_6.cell 5 rfl
              have c_x_6_6 := R_x_6.cell 6 rfl
              have c_x_7_6 := R_x_6.cell 7 rfl
              have c_x_8_6 := R_x_6.cell 8 rfl
              have c_x_9_6 := R_x_6.cell 9 rfl
              have z_x_0_6 := R_x_6.frozen 0
              have z_x_1_6 := R_x_6.frozen 1
              have z_x_2_6 := R_x_6.frozen 2
              have z_x_3_6 := R_x_6.frozen 3
              have z_x_4_6 := R_x_6.frozen 4
              have z_x_5_6 := R_x_6.frozen 5
              have z_x_6_6 := R_x_6.frozen 6
              have z_x_7_6 := R_x_6.frozen 7
              have z_x_8_6 := R_x_6.frozen 8
              have z_x_9_6 := R_x_6.frozen 9
              have l_x_6 := R_x_6.lt
              replace K := K.step (show Below w5.heap.size w5 w6 by (repeat' (first | (with_reducible exact Below.refl _ _) | (with_reducible assumption) | (with_reducible exact Bw.out (by with_reducible assumption)) | (with_reducible refine bw_alloc ?_ _) | (with_reducible refine bw_step ?_ (by with_reducible assumption)) | (with_reducible refine Below.alloc ?_ ?_ _) | (with_reducible refine Below.drew ?_) | (with_reducible refine below_drewN ?_ _) | (with_reducible refine Below.setCell ?_ ?_ _) | (with_reducible refine below_step ?_ (by with_reducible assumption) ?_) | (with_reducible exact Nat.le_refl _) | omega | (simp; omega) | (simp; done))))
              have HB6 : Below w.heap.size w w6 := by (repeat' (first | (with_reducible exact Below.refl _ _) | (with_reducible assumption) | (with_reducible exact Bw.out (by with_reducible assumption)) | (with_reducible refine bw_alloc ?_ _) | (with_reducible refine bw_step ?_ (by with_reducible assumption)) | (with_reducible refine Below.alloc ?_ ?_ _) | (with_reducible refine Below.drew ?_) | (with_reducible refine below_drewN ?_ _) | (with_reducible refine Below.setCell ?_ ?_ _) | (with_reducible refine below_step ?_ (by with_reducible assumption) ?_) | (with_reducible exact Nat.le_refl _) | omega | (simp; omega) | (simp; done)))
              obtain ⟨sF0, sF1, sF2, sF3, sF4, sF5, sF6, sF7, sF8, sF9, sF10, sF11, sF12, sF13, sF14, sF15, sF16, sF17, sF18, sF19, sF20, sF21, sF22⟩ := hS5
              have hS6 : (fun w' : World => w'.cell? ⟨w.heap.size, 0, none⟩ = some (.int .i64 B.id) ∧ w'.cell? ⟨w.heap.size, 1, none⟩ = some (.int .i64 B.kind) ∧ w'.cell? ⟨w.heap.size, 2, none⟩ = some (.int .i64 B.rooms) ∧ w'.cell? ⟨w.heap.size, 3, none⟩ = some (.int .i64 B.fr) ∧ w'.cell? ⟨w.heap.size, 4, none⟩ = some (.int .i64 B.un) ∧ w'.cell? ⟨w.heap.size, 5, none⟩ = some (.slice ca cn cc) ∧ w'.cell? ⟨w.heap.size, 6, none⟩ = some (.int .i64 B.pn) ∧ w'.cell? ⟨w.heap.size, 7, none⟩ = some (.int .i64 B.pd) ∧ w'.cell? ⟨w.heap.size, 8, none⟩ = some (.int .i64 B.fee) ∧ w'.cell? ⟨w.heap.size, 9, none⟩ = some (.slice (some ⟨bb, off, none⟩) pm pc) ∧ w'.cell? ⟨w.heap.size + 1, 0, none⟩ = some (.int .i64 (s0)) ∧ w'.cell? ⟨w.heap.size + 1, 1, none⟩ = some (.int .i64 (s1)) ∧ w'.cell? ⟨w3.heap.size, 0, none⟩ = some (.int .i64 0) ∧ w'.cell? ⟨w3.heap.size, 1, none⟩ = some (.int .i64 0) ∧ w'.cell? ⟨w3.heap.size, 2, none⟩ = some (.int .i64 0) ∧ w'.cell? ⟨w3.heap.size, 3, none⟩ = some (.int .i64 0) ∧ w'.cell? ⟨w3.heap.size, 4, none⟩ = some (.int .i64 0) ∧ w'.cell? ⟨w3.heap.size, 5, none⟩ = some (.slice none 0 0) ∧ w'.cell? ⟨w3.heap.size, 6, none⟩ = some (.int .i64 0) ∧ w'.cell? ⟨w3.heap.size, 7, none⟩ = some (.int .i64 0) ∧ w'.cell? ⟨w3.heap.size, 8, none⟩ = some (.int .i64 0) ∧ w'.cell? ⟨w3.heap.size, 9, none⟩ = some (.slice none 0 0) ∧ w'.cell? ⟨bb, (off + k), none⟩ = some (.int .i64 z)) w6 := ⟨c_b_0_6, c_b_1_6, c_b_2_6, c_b_3_6, c_b_4_6, c_b_5_6, c_b_6_6, c_b_7_6, c_b_8_6, c_b_9_6, c_s_0_6, c_s_1_6, c_x_0_6, c_x_1_6, c_x_2_6, c_x_3_6, c_x_4_6, c_x_5_6, c_x_6_6, c_x_7_6, c_x_8_6, c_x_9_6, (by first | exact (CellAt.step sF22 (by (repeat' (first | (with_reducible exact Below.refl _ _) | (with_reducible assumption) | (with_reducible exact Bw.out (by with_reducible assumption)) | (with_reducible refine bw_alloc ?_ _) | (with_reducible refine bw_step ?_ (by with_reducible assumption)) | (with_reducible refine Below.alloc ?_ ?_ _) | (with_reducible refine Below.drew ?_) | (with_reducible refine below_drewN ?_ _) | (with_reducible refine Below.setCell ?_ ?_ _) | (with_reducible refine below_step ?_ (by with_reducible assumption) ?_) | (with_reducible exact Nat.le_refl _) | omega | (simp; omega) | (simp; done))))).out | exact SlC.step sF22 (by (repeat' (first | (with_reducible exact Below.refl _ _) | (with_reducible assumption) | (with_reducible exact Bw.out (by with_reducible assumption)) | (with_reducible refine bw_alloc ?_ _) | (with_reducible refine bw_step ?_ (by with_reducible assumption)) | (with_reducible refine Below.alloc ?_ ?_ _) | (with_reducible refine Below.drew ?_) | (with_reducible refine below_drewN ?_ _) | (with_reducible refine Below.setCell ?_ ?_ _) | (with_reducible refine below_step ?_ (by with_reducible assumption) ?_) | (with_reducible exact Nat.le_refl _) | omega | (simp; omega) | (simp; done)))))⟩
              clear sF0 sF1 sF2 sF3 sF4 sF5 sF6 sF7 sF8 sF9 sF10 sF11 sF12 sF13 sF14 sF15 sF16 sF17 sF18 sF19 sF20 sF21 sF22
              refine hKz _ _ (fun _ => hS6) ?_
              clear hKz Kz
              clear R_b_5 c_b_0_5 c_b_1_5 c_b_2_5 c_b_3_5 c_b_4_5 c_b_5_5 c_b_6_5 c_b_7_5 c_b_8_5 c_b_9_5 R_s_5 c_s_0_5 c_s_1_5 R_x_5 c_x_0_5 c_x_1_5 c_x_2_5 c_x_3_5 c_x_4_5 c_x_5_5 c_x_6_5 c_x_7_5 c_x_8_5 c_x_9_5 z_x_0_5 z_x_1_5 z_x_2_5 z_x_3_5 z_x_4_5 z_x_5_5 z_x_6_5 z_x_7_5 z_x_8_5 z_x_9_5 hb5 HB5
              refine AnyJ.takeD (i := 14) (d := some 80) (v := ?_) rfl (by kernel_rfl) (by kernel_rfl) (by kernel_rfl) (by kernel_rfl) (by kernel_rfl) (fun _ _ _ h => h) (Or.inl ⟨by kernel_rfl, ?_⟩) hS6 ?_
              rotate_left
              · intro w' hS
                clear hS
                go_simp
                try with_reducible rfl
              refine AnyJ.takeD (i := 15) (d := some 81) (v := ?_) rfl (by kernel_rfl) (by kernel_rfl) (by kernel_rfl) (by kernel_rfl) (by kernel_rfl) (fun _ _ _ h => h) (Or.inl ⟨by kernel_rfl, ?_⟩) hS6 ?_
              rotate_left
              · intro w' hS
                clear hS
                go_simp
                try with_reducible rfl
              refine AnyJ.takeD (i := 16) (d := some 12) (v := ?_) rfl (by kernel_rfl) (by kernel_rfl) (by kernel_rfl) (by kernel_rfl) (by kernel_rfl) (fun _ _ _ h => h) (Or.inl ⟨by kernel_rfl, ?_⟩) hS6 ?_
              rotate_left
              · intro w' hS
                clear hS
                go_simp
                try with_reducible rfl
              refine AnyJ.done (by kernel_rfl) ?_ _
              clear hS6
              simp only [Act.put, List.setIfInBounds_toArray, List.set_cons_zero, List.set_cons_succ]
              go_wp2_with fail
              go_roundw
              case rel => exact ⟨k + 1, false, by omega, by omega, congrArg (Value.int .i64) (by omega), (by first | rfl | exact congrArg Value.bool (by simp; omega)), HSV, (by show Below _ _ _; exact hbk5.drew.trans (hb6.mono hbk5.size))⟩
              case measure => simp [intOf]; omega
        · obtain rfl : k = c := by omega
          obtain rfl : ub = true := hT.out.symm.trans HF.out
          have hnlt : ¬ (B.fr + (k : Int) < s1) := by rw [HS1.out]; omega
          clear hlt
          go_wp2_with fail
          refine (r_Same noB none 0 0 none 0 0 none 0 none 0 _ (no_in _) (no_in _)).mono ?_
          rintro e w6 ⟨rfl, hb6⟩
          have R_b_6 : Row w6 (w.heap.size) [.int .i64 B.id, .int .i64 B.kind, .int .i64 B.rooms, .int .i64 B.fr, .int .i64 B.un, .slice ca cn cc, .int .i64 B.pn, .int .i64 B.pd, .int .i64 B.fee, .slice (some ⟨bb, off, none⟩) pm pc] := by (repeat' (first | (with_reducible assumption) | (with_reducible refine Row.new' _ _ _ (by first | rfl | (simp; done) | omega)) | (with_reducible refine Row.alloc ?_ _) | (with_reducible refine Row.drew ?_) | (with_reducible refine Row.drewN ?_ _) | (with_reducible refine Row.step ?_ (by with_reducible assumption)) | (with_reducible refine Row.set2' ?_ _ _; first | exact ⟨_, _, by with_reducible assumption⟩ | exact ⟨_, _, Row.alloc (by with_reducible assumption) _⟩ | exact ⟨_, _, Row.alloc (Row.alloc (by with_reducible assumption) _) _⟩) | (with_reducible refine Row.other ?_ (by first | omega | (simp; done) | (simp; omega)) _)))
          have c_b_0_6 := R_b_6.cell 0 rfl
          have c_b_1_6 := R_b_6.cell 1 rfl
          have c_b_2_6 := R_b_6.cell 2 rfl
          have c_b_3_6 := R_b_6.cell 3 rfl
          have c_b_4_6 := R_b_6.cell 4 rfl
          have c_b_5_6 := R_b_6.cell 5 rfl
          have c_b_6_6 := R_b_6.cell 6 rfl
          have c_b_7_6 := R_b_6.cell 7 rfl
          have c_b_8_6 := R_b_6.cell 8 rfl
          have c_b_9_6 := R_b_6.cell 9 rfl
          have l_b_6 := R_b_6.lt
          have R_s_6 : Row w6 (w.heap.size + 1) [.int .i64 (s0), .int .i64 (s1)] := by (repeat' (first | (with_reducible assumption) | (with_reducible refine Row.new' _ _ _ (by first | rfl | (simp; done) | omega)) | (with_reducible refine Row.alloc ?_ _) | (with_reducible refine Row.drew ?_) | (with_reducible refine Row.drewN ?_ _) | (with_reducible refine Row.step ?_ (by with_reducible assumption)) | (with_reducible refine Row.set2' ?_ _ _; first | exact ⟨_, _, by with_reducible assumption⟩ | exact ⟨_, _, Row.alloc (by with_reducible assumption) _⟩ | exact ⟨_, _, Row.alloc (Row.alloc (by with_reducible assumption) _) _⟩) | (with_reducible refine Row.other ?_ (by first | omega | (simp; done) | (simp; omega)) _)))
          have c_s_0_6 := R_s_6.cell 0 rfl
          have c_s_1_6 := R_s_6.cell 1 rfl
          have l_s_6 := R_s_6.lt
          have R_x_6 : Row w6 (w3.heap.size) [.int .i64 0, .int .i64 0, .int .i64 0, .int .i64 0, .int .i64 0, .slice none 0 0, .int .i64 0, .int .i64 0, .int .i64 0, .slice none 0 0] := by (repeat' (first | (with_reducible assumption) | (with_reducible refine Row.new' _ _ _ (by first | rfl | (simp; done) | omega)) | (with_reducible refine Row.alloc ?_ _) | (with_reducible refine Row.drew ?_) | (with_reducible refine Row.drewN ?_ _) | (with_reducible refine Row.step ?_ (by with_reducible assumption)) | (with_reducible refine Row.set2' ?_ _ _; first | exact ⟨_, _, by with_reducible assumption⟩ | exact ⟨_, _, Row.alloc (by with_reducible assumption) _⟩ | exact ⟨_, _, Row.alloc (Row.alloc (by with_reducible assumption) _) _⟩) | (with_reducible refine Row.other ?_ (by first | omega | (simp; done) | (simp; omega)) _)))
          have c_x_0_6 := R_x_6.cell 0 rfl
          have c_x_1_6 := R_x_6.cell 1 rfl
          have c_x_2_6 := R_x_6.cell 2 rfl
          have c_x_3_6 := R_x_6.cell 3 rfl
          have c_x_4_6 := R_x_6.cell 4 rfl
          have c_x_5_6 := R_x_6.cell 5 rfl
          have c_x_6_6 := R_x_6.cell 6 rfl
          have c_x_7_6 := R_x_6.cell 7 rfl
          have c_x_8_6 := R_x_6.cell 8 rfl
          have c_x_9_6 := R_x_6.cell 9 rfl
          have z_x_0_6 := R_x_6.frozen 0
          have z_x_1_6 := R_x_6.frozen 1
          have z_x_2_6 := R_x_6.frozen 2
          have z_x_3_6 := R_x_6.frozen 3
          have z_x_4_6 := R_x_6.frozen 4
          have z_x_5_6 := R_x_6.frozen 5
          have z_x_6_6 := R_x_6.frozen 6
          have z_x_7_6 := R_x_6.frozen 7
          have z_x_8_6 := R_x_6.frozen 8
          have z_x_9_6 := R_x_6.frozen 9
          have l_x_6 := R_x_6.lt
          replace K := K.step (show Below w5.heap.size w5 w6 by (repeat' (first | (with_reducible exact Below.refl _ _) | (with_reducible assumption) | (with_reducible exact Bw.out (by with_reducible assumption)) | (with_reducible refine bw_alloc ?_ _) | (with_reducible refine bw_step ?_ (by with_reducible assumption)) | (with_reducible refine Below.alloc ?_ ?_ _) | (with_reducible refine Below.drew ?_) | (with_reducible refine below_drewN ?_ _) | (with_reducible refine Below.setCell ?_ ?_ _) | (with_reducible refine below_step ?_ (by with_reducible assumption) ?_) | (with_reducible exact Nat.le_refl _) | omega | (simp; omega) | (simp; done))))
          have HB6 : Below w.heap.size w w6 := by (repeat' (first | (with_reducible exact Below.refl _ _) | (with_reducible assumption) | (with_reducible exact Bw.out (by with_reducible assumption)) | (with_reducible refine bw_alloc ?_ _) | (with_reducible refine bw_step ?_ (by with_reducible assumption)) | (with_reducible refine Below.alloc ?_ ?_ _) | (with_reducible refine Below.drew ?_) | (with_reducible refine below_drewN ?_ _) | (with_reducible refine Below.setCell ?_ ?_ _) | (with_reducible refine below_step ?_ (by with_reducible assumption) ?_) | (with_reducible exact Nat.le_refl _) | omega | (simp; omega) | (simp; done)))
          clear R_b_5 c_b_0_5 c_b_1_5 c_b_2_5 c_b_3_5 c_b_4_5 c_b_5_5 c_b_6_5 c_b_7_5 c_b_8_5 c_b_9_5 R_s_5 c_s_0_5 c_s_1_5 R_x_5 c_x_0_5 c_x_1_5 c_x_2_5 c_x_3_5 c_x_4_5 c_x_5_5 c_x_6_5 c_x_7_5 c_x_8_5 c_x_9_5 z_x_0_5 z_x_1_5 z_x_2_5 z_x_3_5 z_x_4_5 z_x_5_5 z_x_6_5 z_x_7_5 z_x_8_5 z_x_9_5 hb5 HB5
          go_wp2_with fail
          go_ret
          refine ⟨(by first | rfl | exact ret_bool (by first | rfl | (simp; done) | (simp; omega))), ?_⟩
          (repeat' (first | (with_reducible exact Below.refl _ _) | (with_reducible assumption) | (with_reducible exact Bw.out (by with_reducible assumption)) | (with_reducible refine bw_alloc ?_ _) | (with_reducible refine bw_step ?_ (by with_reducible assumption)) | (with_reducible refine Below.alloc ?_ ?_ _) | (with_reducible refine Below.drew ?_) | (with_reducible refine below_drewN ?_ _) | (with_reducible refine Below.setCell ?_ ?_ _) | (with_reducible refine below_step ?_ (by with_reducible assumption) ?_) | (with_reducible exact Nat.le_refl _) | omega | (simp; omega) | (simp; done)))
    | false =>
      have HF := Lib.hid hF
      rw [hF, if_neg (by decide)] at hpe
      have HP := Lib.hid hpe
      obtain ⟨ey, vy⟩ := pick_held hpe hd (n := B.fr + j) rfl (by rw [hpl]; exact hjp)
      obtain ⟨ex, _⟩ := held_okP hv hd (n := B.fr + j) rfl (by rw [hpl]; exact hjp)
      obtain ⟨X, hX⟩ : ∃ X, heV B day (B.fr + j) = X := ⟨_, rfl⟩
      have HVX := Lib.hid hX
      have HVY := Lib.hid (vy.trans hX)
      have HEX := Lib.hid ex
      have HEY := Lib.hid ey
      have K0 := Lib.hid K
      have HXA : Hid (ixA B s0 = a) := by show _ = _; unfold ixA; omega
      have HXC : Hid (ixA B s1 = c) := by show _ = _; unfold ixA; omega
      clear hF hpe ha hc hL hpl ok hv hd ws0 ws1 hjn hjl ex ey vy hX
      go_enter Try.func6, Try.ntmps6
      go_wp2_with fail
      refine (head_any _).mono ?_
      rintro e w1 ⟨rfl, hb1⟩
      have R_b_1 : Row w1 (w.heap.size) [.int .i64 B.id, .int .i64 B.kind, .int .i64 B.rooms, .int .i64 B.fr, .int .i64 B.un, .slice ca cn cc, .int .i64 B.pn, .int .i64 B.pd, .int .i64 B.fee, .slice (some ⟨bb, off, none⟩) pm pc] := by (repeat' (first | (with_reducible assumption) | (with_reducible refine Row.new' _ _ _ (by first | rfl | (simp; done) | omega)) | (with_reducible refine Row.alloc ?_ _) | (with_reducible refine Row.drew ?_) | (with_reducible refine Row.drewN ?_ _) | (with_reducible refine Row.step ?_ (by with_reducible assumption)) | (with_reducible refine Row.set2' ?_ _ _; first | exact ⟨_, _, by with_reducible assumption⟩ | exact ⟨_, _, Row.alloc (by with_reducible assumption) _⟩ | exact ⟨_, _, Row.alloc (Row.alloc (by with_reducible assumption) _) _⟩) | (with_reducible refine Row.other ?_ (by first | omega | (simp; done) | (simp; omega)) _)))
      have c_b_0_1 := R_b_1.cell 0 rfl
      have c_b_1_1 := R_b_1.cell 1 rfl
      have c_b_2_1 := R_b_1.cell 2 rfl
      have c_b_3_1 := R_b_1.cell 3 rfl
      have c_b_4_1 := R_b_1.cell 4 rfl
      have c_b_5_1 := R_b_1.cell 5 rfl
      have c_b_6_1 := R_b_1.cell 6 rfl
      have c_b_7_1 := R_b_1.cell 7 rfl
      have c_b_8_1 := R_b_1.cell 8 rfl
      have c_b_9_1 := R_b_1.cell 9 rfl
      have l_b_1 := R_b_1.lt
      have R_s_1 : Row w1 (w.heap.size + 1) [.int .i64 (s0), .int .i64 (s1)] := by (repeat' (first | (with_reducible assumption) | (with_reducible refine Row.new' _ _ _ (by first | rfl | (simp; done) | omega)) | (with_reducible refine Row.alloc ?_ _) | (with_reducible refine Row.drew ?_) | (with_reducible refine Row.drewN ?_ _) | (with_reducible refine Row.step ?_ (by with_reducible assumption)) | (with_reducible refine Row.set2' ?_ _ _; first | exact ⟨_, _, by with_reducible assumption⟩ | exact ⟨_, _, Row.alloc (by with_reducible assumption) _⟩ | exact ⟨_, _, Row.alloc (Row.alloc (by with_reducible assumption) _) _⟩) | (with_reducible refine Row.other ?_ (by first | omega | (simp; done) | (simp; omega)) _)))
      have c_s_0_1 := R_s_1.cell 0 rfl
      have c_s_1_1 := R_s_1.cell 1 rfl
      have l_s_1 := R_s_1.lt
      replace K := K.step (show Below w.heap.size w w1 by (repeat' (first | (with_reducible exact Below.refl _ _) | (with_reducible assumption) | (with_reducible exact Bw.out (by with_reducible assumption)) | (with_reducible refine bw_alloc ?_ _) | (with_reducible refine bw_step ?_ (by with_reducible assumption)) | (with_reducible refine Below.alloc ?_ ?_ _) | (with_reducible refine Below.drew ?_) | (with_reducible refine below_drewN ?_ _) | (with_reducible refine Below.setCell ?_ ?_ _) | (with_reducible refine below_step ?_ (by with_reducible assumption) ?_) | (with_reducible exact Nat.le_refl _) | omega | (simp; omega) | (simp; done))))
      have HB1 : Below w.heap.size w w1 := by (repeat' (first | (with_reducible exact Below.refl _ _) | (with_reducible assumption) | (with_reducible exact Bw.out (by with_reducible assumption)) | (with_reducible refine bw_alloc ?_ _) | (with_reducible refine bw_step ?_ (by with_reducible assumption)) | (with_reducible refine Below.alloc ?_ ?_ _) | (with_reducible refine Below.drew ?_) | (with_reducible refine below_drewN ?_ _) | (with_reducible refine Below.setCell ?_ ?_ _) | (with_reducible refine below_step ?_ (by with_reducible assumption) ?_) | (with_reducible exact Nat.le_refl _) | omega | (simp; omega) | (simp; done)))
      go_wp2_with fail
      refine (l_usable B day _ _ _ _ _ _ _ (K.step (by (repeat' (first | (with_reducible exact Below.refl _ _) | (with_reducible assumption) | (with_reducible exact Bw.out (by with_reducible assumption)) | (with_reducible refine bw_alloc ?_ _) | (with_reducible refine bw_step ?_ (by with_reducible assumption)) | (with_reducible refine Below.alloc ?_ ?_ _) | (with_reducible refine Below.drew ?_) | (with_reducible refine below_drewN ?_ _) | (with_reducible refine Below.setCell ?_ ?_ _) | (with_reducible refine below_step ?_ (by with_reducible assumption) ?_) | (with_reducible exact Nat.le_refl _) | omega | (simp; omega) | (simp; done))))) true HU.out).mono ?_
      rintro e w2 ⟨rfl, hb2⟩
      have R_b_2 : Row w2 (w.heap.size) [.int .i64 B.id, .int .i64 B.kind, .int .i64 B.rooms, .int .i64 B.fr, .int .i64 B.un, .slice ca cn cc, .int .i64 B.pn, .int .i64 B.pd, .int .i64 B.fee, .slice (some ⟨bb, off, none⟩) pm pc] := by (repeat' (first | (with_reducible assumption) | (with_reducible refine Row.new' _ _ _ (by first | rfl | (simp; done) | omega)) | (with_reducible refine Row.alloc ?_ _) | (with_reducible refine Row.drew ?_) | (with_reducible refine Row.drewN ?_ _) | (with_reducible refine Row.step ?_ (by with_reducible assumption)) | (with_reducible refine Row.set2' ?_ _ _; first | exact ⟨_, _, by with_reducible assumption⟩ | exact ⟨_, _, Row.alloc (by with_reducible assumption) _⟩ | exact ⟨_, _, Row.alloc (Row.alloc (by with_reducible assumption) _) _⟩) | (with_reducible refine Row.other ?_ (by first | omega | (simp; done) | (simp; omega)) _)))
      have c_b_0_2 := R_b_2.cell 0 rfl
      have c_b_1_2 := R_b_2.cell 1 rfl
      have c_b_2_2 := R_b_2.cell 2 rfl
      have c_b_3_2 := R_b_2.cell 3 rfl
      have c_b_4_2 := R_b_2.cell 4 rfl
      have c_b_5_2 := R_b_2.cell 5 rfl
      have c_b_6_2 := R_b_2.cell 6 rfl
      have c_b_7_2 := R_b_2.cell 7 rfl
      have c_b_8_2 := R_b_2.cell 8 rfl
      have c_b_9_2 := R_b_2.cell 9 rfl
      have l_b_2 := R_b_2.lt
      have R_s_2 : Row w2 (w.heap.size + 1) [.int .i64 (s0), .int .i64 (s1)] := by (repeat' (first | (with_reducible assumption) | (with_reducible refine Row.new' _ _ _ (by first | rfl | (simp; done) | omega)) | (with_reducible refine Row.alloc ?_ _) | (with_reducible refine Row.drew ?_) | (with_reducible refine Row.drewN ?_ _) | (with_reducible refine Row.step ?_ (by with_reducible assumption)) | (with_reducible refine Row.set2' ?_ _ _; first | exact ⟨_, _, by with_reducible assumption⟩ | exact ⟨_, _, Row.alloc (by with_reducible assumption) _⟩ | exact ⟨_, _, Row.alloc (Row.alloc (by with_reducible assumption) _) _⟩) | (with_reducible refine Row.other ?_ (by first | omega | (simp; done) | (simp; omega)) _)))
      have c_s_0_2 := R_s_2.cell 0 rfl
      have c_s_1_2 := R_s_2.cell 1 rfl
      have l_s_2 := R_s_2.lt
      replace K := K.step (show Below w1.heap.size w1 w2 by (repeat' (first | (with_reducible exact Below.refl _ _) | (with_reducible assumption) | (with_reducible exact Bw.out (by with_reducible assumption)) | (with_reducible refine bw_alloc ?_ _) | (with_reducible refine bw_step ?_ (by with_reducible assumption)) | (with_reducible refine Below.alloc ?_ ?_ _) | (with_reducible refine Below.drew ?_) | (with_reducible refine below_drewN ?_ _) | (with_reducible refine Below.setCell ?_ ?_ _) | (with_reducible refine below_step ?_ (by with_reducible assumption) ?_) | (with_reducible exact Nat.le_refl _) | omega | (simp; omega) | (simp; done))))
      have HB2 : Below w.heap.size w w2 := by (repeat' (first | (with_reducible exact Below.refl _ _) | (with_reducible assumption) | (with_reducible exact Bw.out (by with_reducible assumption)) | (with_reducible refine bw_alloc ?_ _) | (with_reducible refine bw_step ?_ (by with_reducible assumption)) | (with_reducible refine Below.alloc ?_ ?_ _) | (with_reducible refine Below.drew ?_) | (with_reducible refine below_drewN ?_ _) | (with_reducible refine Below.setCell ?_ ?_ _) | (with_reducible refine below_step ?_ (by with_reducible assumption) ?_) | (with_reducible exact Nat.le_refl _) | omega | (simp; omega) | (simp; done)))
      clear R_b_1 c_b_0_1 c_b_1_1 c_b_2_1 c_b_3_1 c_b_4_1 c_b_5_1 c_b_6_1 c_b_7_1 c_b_8_1 c_b_9_1 R_s_1 c_s_0_1 c_s_1_1 hb1 HB1
      go_wp2_with fail
      refine (g_Pick_some B day s0 s1 _ _ _ _ _ _ _ (K.step (by (repeat' (first | (with_reducible exact Below.refl _ _) | (with_reducible assumption) | (with_reducible exact Bw.out (by with_reducible assumption)) | (with_reducible refine bw_alloc ?_ _) | (with_reducible refine bw_step ?_ (by with_reducible assumption)) | (with_reducible refine Below.alloc ?_ ?_ _) | (with_reducible refine Below.drew ?_) | (with_reducible refine below_drewN ?_ _) | (with_reducible refine Below.setCell ?_ ?_ _) | (with_reducible refine below_step ?_ (by with_reducible assumption) ?_) | (with_reducible exact Nat.le_refl _) | omega | (simp; omega) | (simp; done))))) HP.out).mono ?_
      rintro e w3 ⟨g1, rfl, K1, hg1, hb3⟩
      have R_b_3 : Row w3 (w.heap.size) [.int .i64 B.id, .int .i64 B.kind, .int .i64 B.rooms, .int .i64 B.fr, .int .i64 B.un, .slice ca cn cc, .int .i64 B.pn, .int .i64 B.pd, .int .i64 B.fee, .slice (some ⟨bb, off, none⟩) pm pc] := by (repeat' (first | (with_reducible assumption) | (with_reducible refine Row.new' _ _ _ (by first | rfl | (simp; done) | omega)) | (with_reducible refine Row.alloc ?_ _) | (with_reducible refine Row.drew ?_) | (with_reducible refine Row.drewN ?_ _) | (with_reducible refine Row.step ?_ (by with_reducible assumption)) | (with_reducible refine Row.set2' ?_ _ _; first | exact ⟨_, _, by with_reducible assumption⟩ | exact ⟨_, _, Row.alloc (by with_reducible assumption) _⟩ | exact ⟨_, _, Row.alloc (Row.alloc (by with_reducible assumption) _) _⟩) | (with_reducible refine Row.other ?_ (by first | omega | (simp; done) | (simp; omega)) _)))
      have c_b_0_3 := R_b_3.cell 0 rfl
      have c_b_1_3 := R_b_3.cell 1 rfl
      have c_b_2_3 := R_b_3.cell 2 rfl
      have c_b_3_3 := R_b_3.cell 3 rfl
      have c_b_4_3 := R_b_3.cell 4 rfl
      have c_b_5_3 := R_b_3.cell 5 rfl
      have c_b_6_3 := R_b_3.cell 6 rfl
      have c_b_7_3 := R_b_3.cell 7 rfl
      have c_b_8_3 := R_b_3.cell 8 rfl
      have c_b_9_3 := R_b_3.cell 9 rfl
      have l_b_3 := R_b_3.lt
      have R_s_3 : Row w3 (w.heap.size + 1) [.int .i64 (s0), .int .i64 (s1)] := by (repeat' (first | (with_reducible assumption) | (with_reducible refine Row.new' _ _ _ (by first | rfl | (simp; done) | omega)) | (with_reducible refine Row.alloc ?_ _) | (with_reducible refine Row.drew ?_) | (with_reducible refine Row.drewN ?_ _) | (with_reducible refine Row.step ?_ (by with_reducible assumption)) | (with_reducible refine Row.set2' ?_ _ _; first | exact ⟨_, _, by with_reducible assumption⟩ | exact ⟨_, _, Row.alloc (by with_reducible assumption) _⟩ | exact ⟨_, _, Row.alloc (Row.alloc (by with_reducible assumption) _) _⟩) | (with_reducible refine Row.other ?_ (by first | omega | (simp; done) | (simp; omega)) _)))
      have c_s_0_3 := R_s_3.cell 0 rfl
      have c_s_1_3 := R_s_3.cell 1 rfl
      have l_s_3 := R_s_3.lt
      replace K := K.step (show Below w2.heap.size w2 w3 by (repeat' (first | (with_reducible exact Below.refl _ _) | (with_reducible assumption) | (with_reducible exact Bw.out (by with_reducible assumption)) | (with_reducible refine bw_alloc ?_ _) | (with_reducible refine bw_step ?_ (by with_reducible assumption)) | (with_reducible refine Below.alloc ?_ ?_ _) | (with_reducible refine Below.drew ?_) | (with_reducible refine below_drewN ?_ _) | (with_reducible refine Below.setCell ?_ ?_ _) | (with_reducible refine below_step ?_ (by with_reducible assumption) ?_) | (with_reducible exact Nat.le_refl _) | omega | (simp; omega) | (simp; done))))
      have HB3 : Below w.heap.size w w3 := by (repeat' (first | (with_reducible exact Below.refl _ _) | (with_reducible assumption) | (with_reducible exact Bw.out (by with_reducible assumption)) | (with_reducible refine bw_alloc ?_ _) | (with_reducible refine bw_step ?_ (by with_reducible assumption)) | (with_reducible refine Below.alloc ?_ ?_ _) | (with_reducible refine Below.drew ?_) | (with_reducible refine below_drewN ?_ _) | (with_reducible refine Below.setCell ?_ ?_ _) | (with_reducible refine below_step ?_ (by with_reducible assumption) ?_) | (with_reducible exact Nat.le_refl _) | omega | (simp; omega) | (simp; done)))
      clear R_b_2 c_b_0_2 c_b_1_2 c_b_2_2 c_b_3_2 c_b_4_2 c_b_5_2 c_b_6_2 c_b_7_2 c_b_8_2 c_b_9_2 R_s_2 c_s_0_2 c_s_1_2 hb2 HB2
      go_upto_region 5 with fail
      generalize hw4 : w3.alloc _ = w4
      have RX : Row w4 w3.heap.size [.int .i64 B.id, .int .i64 B.kind, .int .i64 B.rooms, .int .i64 B.fr, .int .i64 B.un, .slice ca cn cc, .int .i64 B.pn, .int .i64 B.pd, .int .i64 B.fee, .slice (some ⟨g1, 0, none⟩) pm pm] := by rw [← hw4]; exact Row.new' _ [.int .i64 B.id, .int .i64 B.kind, .int .i64 B.rooms, .int .i64 B.fr, .int .i64 B.un, .slice ca cn cc, .int .i64 B.pn, .int .i64 B.pd, .int .i64 B.fee, .slice (some ⟨g1, 0, none⟩) pm pm] _ rfl
      have hb4 : Below w3.heap.size w3 w4 := by rw [← hw4]; (repeat' (first | (with_reducible exact Below.refl _ _) | (with_reducible assumption) | (with_reducible exact Bw.out (by with_reducible assumption)) | (with_reducible refine bw_alloc ?_ _) | (with_reducible refine bw_step ?_ (by with_reducible assumption)) | (with_reducible refine Below.alloc ?_ ?_ _) | (with_reducible refine Below.drew ?_) | (with_reducible refine below_drewN ?_ _) | (with_reducible refine Below.setCell ?_ ?_ _) | (with_reducible refine below_step ?_ (by with_reducible assumption) ?_) | (with_reducible exact Nat.le_refl _) | omega | (simp; omega) | (simp; done)))
      clear hw4
      have R_b_4 : Row w4 (w.heap.size) [.int .i64 B.id, .int .i64 B.kind, .int .i64 B.rooms, .int .i64 B.fr, .int .i64 B.un, .slice ca cn cc, .int .i64 B.pn, .int .i64 B.pd, .int .i64 B.fee, .slice (some ⟨bb, off, none⟩) pm pc] := by (repeat' (first | (with_reducible assumption) | (with_reducible refine Row.new' _ _ _ (by first | rfl | (simp; done) | omega)) | (with_reducible refine Row.alloc ?_ _) | (with_reducible refine Row.drew ?_) | (with_reducible refine Row.drewN ?_ _) | (with_reducible refine Row.step ?_ (by with_reducible assumption)) | (with_reducible refine Row.set2' ?_ _ _; first | exact ⟨_, _, by with_reducible assumption⟩ | exact ⟨_, _, Row.alloc (by with_reducible assumption) _⟩ | exact ⟨_, _, Row.alloc (Row.alloc (by with_reducible assumption) _) _⟩) | (with_reducible refine Row.other ?_ (by first | omega | (simp; done) | (simp; omega)) _)))
      have c_b_0_4 := R_b_4.cell 0 rfl
      have c_b_1_4 := R_b_4.cell 1 rfl
      have c_b_2_4 := R_b_4.cell 2 rfl
      have c_b_3_4 := R_b_4.cell 3 rfl
      have c_b_4_4 := R_b_4.cell 4 rfl
      have c_b_5_4 := R_b_4.cell 5 rfl
      have c_b_6_4 := R_b_4.cell 6 rfl
      have c_b_7_4 := R_b_4.cell 7 rfl
      have c_b_8_4 := R_b_4.cell 8 rfl
      have c_b_9_4 := R_b_4.cell 9 rfl
      have l_b_4 := R_b_4.lt
      have R_s_4 : Row w4 (w.heap.size + 1) [.int .i64 (s0), .int .i64 (s1)] := by (repeat' (first | (with_reducible assumption) | (with_reducible refine Row.new' _ _ _ (by first | rfl | (simp; done) | omega)) | (with_reducible refine Row.alloc ?_ _) | (with_reducible refine Row.drew ?_) | (with_reducible refine Row.drewN ?_ _) | (with_reducible refine Row.step ?_ (by with_reducible assumption)) | (with_reducible refine Row.set2' ?_ _ _; first | exact ⟨_, _, by with_reducible assumption⟩ | exact ⟨_, _, Row.alloc (by with_reducible assumption) _⟩ | exact ⟨_, _, Row.alloc (Row.alloc (by with_reducible assumption) _) _⟩) | (with_reducible refine Row.other ?_ (by first | omega | (simp; done) | (simp; omega)) _)))
      have c_s_0_4 := R_s_4.cell 0 rfl
      have c_s_1_4 := R_s_4.cell 1 rfl
      have l_s_4 := R_s_4.lt
      have R_x_4 : Row w4 (w3.heap.size) [.int .i64 B.id, .int .i64 B.kind, .int .i64 B.rooms, .int .i64 B.fr, .int .i64 B.un, .slice ca cn cc, .int .i64 B.pn, .int .i64 B.pd, .int .i64 B.fee, .slice (some ⟨g1, 0, none⟩) pm pm] := by (repeat' (first | (with_reducible assumption) | (with_reducible refine Row.new' _ _ _ (by first | rfl | (simp; done) | omega)) | (with_reducible refine Row.alloc ?_ _) | (with_reducible refine Row.drew ?_) | (with_reducible refine Row.drewN ?_ _) | (with_reducible refine Row.step ?_ (by with_reducible assumption)) | (with_reducible refine Row.set2' ?_ _ _; first | exact ⟨_, _, by with_reducible assumption⟩ | exact ⟨_, _, Row.alloc (by with_reducible assumption) _⟩ | exact ⟨_, _, Row.alloc (Row.alloc (by with_reducible assumption) _) _⟩) | (with_reducible refine Row.other ?_ (by first | omega | (simp; done) | (simp; omega)) _)))
      have c_x_0_4 := R_x_4.cell 0 rfl
      have c_x_1_4 := R_x_4.cell 1 rfl
      have c_x_2_4 := R_x_4.cell 2 rfl
      have c_x_3_4 := R_x_4.cell 3 rfl
      have c_x_4_4 := R_x_4.cell 4 rfl
      have c_x_5_4 := R_x_4.cell 5 rfl
      have c_x_6_4 := R_x_4.cell 6 rfl
      have c_x_7_4 := R_x_4.cell 7 rfl
      have c_x_8_4 := R_x_4.cell 8 rfl
      have c_x_9_4 := R_x_4.cell 9 rfl
      have z_x_0_4 := R_x_4.frozen 0
      have z_x_1_4 := R_x_4.frozen 1
      have z_x_2_4 := R_x_4.frozen 2
      have z_x_3_4 := R_x_4.frozen 3
      have z_x_4_4 := R_x_4.frozen 4
      have z_x_5_4 := R_x_4.frozen 5
      have z_x_6_4 := R_x_4.frozen 6
      have z_x_7_4 := R_x_4.frozen 7
      have z_x_8_4 := R_x_4.frozen 8
      have z_x_9_4 := R_x_4.frozen 9
      have l_x_4 := R_x_4.lt
      replace K := K.step (show Below w3.heap.size w3 w4 by (repeat' (first | (with_reducible exact Below.refl _ _) | (with_reducible assumption) | (with_reducible exact Bw.out (by with_reducible assumption)) | (with_reducible refine bw_alloc ?_ _) | (with_reducible refine bw_step ?_ (by with_reducible assumption)) | (with_reducible refine Below.alloc ?_ ?_ _) | (with_reducible refine Below.drew ?_) | (with_reducible refine below_drewN ?_ _) | (with_reducible refine Below.setCell ?_ ?_ _) | (with_reducible refine below_step ?_ (by with_reducible assumption) ?_) | (with_reducible exact Nat.le_refl _) | omega | (simp; omega) | (simp; done))))
      replace K1 := K1.step (show Below w3.heap.size w3 w4 by (repeat' (first | (with_reducible exact Below.refl _ _) | (with_reducible assumption) | (with_reducible exact Bw.out (by with_reducible assumption)) | (with_reducible refine bw_alloc ?_ _) | (with_reducible refine bw_step ?_ (by with_reducible assumption)) | (with_reducible refine Below.alloc ?_ ?_ _) | (with_reducible refine Below.drew ?_) | (with_reducible refine below_drewN ?_ _) | (with_reducible refine Below.setCell ?_ ?_ _) | (with_reducible refine below_step ?_ (by with_reducible assumption) ?_) | (with_reducible exact Nat.le_refl _) | omega | (simp; omega) | (simp; done))))
      have HB4 : Below w.heap.size w w4 := by (repeat' (first | (with_reducible exact Below.refl _ _) | (with_reducible assumption) | (with_reducible exact Bw.out (by with_reducible assumption)) | (with_reducible refine bw_alloc ?_ _) | (with_reducible refine bw_step ?_ (by with_reducible assumption)) | (with_reducible refine Below.alloc ?_ ?_ _) | (with_reducible refine Below.drew ?_) | (with_reducible refine below_drewN ?_ _) | (with_reducible refine Below.setCell ?_ ?_ _) | (with_reducible refine below_step ?_ (by with_reducible assumption) ?_) | (with_reducible exact Nat.le_refl _) | omega | (simp; omega) | (simp; done)))
      clear R_b_3 c_b_0_3 c_b_1_3 c_b_2_3 c_b_3_3 c_b_4_3 c_b_5_3 c_b_6_3 c_b_7_3 c_b_8_3 c_b_9_3 R_s_3 c_s_0_3 c_s_1_3 hb3 HB3
      clear RX
      go_wp2_with fail
      go_loopw [12, 13] (fun u i wr => ∃ (k : Nat) (ub : Bool), a ≤ k ∧ k ≤ c ∧ i = .int .i64 (B.fr + k) ∧ u = .bool ub ∧ Hid (fullB L a k B.picked = ub) ∧ Hid (Below w4.heap.size w4 wr)) (fun _ i _ => (s1 - intOf i).toNat)
      case atStart => exact ⟨a, false, Nat.le_refl _, by omega, by rw [HS0.out], rfl, fullB_zero _ _ _, Below.refl _ _⟩
      case round =>
        obtain ⟨k, ub, hk1, hk2, rfl, rfl, hT, hB⟩ := hrel
        obtain ⟨w5, hw5⟩ : ∃ wd : World, wd = wr := ⟨_, rfl⟩
        subst hw5
        have hb5 := hB.out
        have hbk5 := hB.out
        clear hB
        have R_b_5 : Row w5 (w.heap.size) [.int .i64 B.id, .int .i64 B.kind, .int .i64 B.rooms, .int .i64 B.fr, .int .i64 B.un, .slice ca cn cc, .int .i64 B.pn, .int .i64 B.pd, .int .i64 B.fee, .slice (some ⟨bb, off, none⟩) pm pc] := by (repeat' (first | (with_reducible assumption) | (with_reducible refine Row.new' _ _ _ (by first | rfl | (simp; done) | omega)) | (with_reducible refine Row.alloc ?_ _) | (with_reducible refine Row.drew ?_) | (with_reducible refine Row.drewN ?_ _) | (with_reducible refine Row.step ?_ (by with_reducible assumption)) | (with_reducible refine Row.set2' ?_ _ _; first | exact ⟨_, _, by with_reducible assumption⟩ | exact ⟨_, _, Row.alloc (by with_reducible assumption) _⟩ | exact ⟨_, _, Row.alloc (Row.alloc (by with_reducible assumption) _) _⟩) | (with_reducible refine Row.other ?_ (by first | omega | (simp; done) | (simp; omega)) _)))
        have c_b_0_5 := R_b_5.cell 0 rfl
        have c_b_1_5 := R_b_5.cell 1 rfl
        have c_b_2_5 := R_b_5.cell 2 rfl
        have c_b_3_5 := R_b_5.cell 3 rfl
        have c_b_4_5 := R_b_5.cell 4 rfl
        have c_b_5_5 := R_b_5.cell 5 rfl
        have c_b_6_5 := R_b_5.cell 6 rfl
        have c_b_7_5 := R_b_5.cell 7 rfl
        have c_b_8_5 := R_b_5.cell 8 rfl
        have c_b_9_5 := R_b_5.cell 9 rfl
        have l_b_5 := R_b_5.lt
        have R_s_5 : Row w5 (w.heap.size + 1) [.int .i64 (s0), .int .i64 (s1)] := by (repeat' (first | (with_reducible assumption) | (with_reducible refine Row.new' _ _ _ (by first | rfl | (simp; done) | omega)) | (with_reducible refine Row.alloc ?_ _) | (with_reducible refine Row.drew ?_) | (with_reducible refine Row.drewN ?_ _) | (with_reducible refine Row.step ?_ (by with_reducible assumption)) | (with_reducible refine Row.set2' ?_ _ _; first | exact ⟨_, _, by with_reducible assumption⟩ | exact ⟨_, _, Row.alloc (by with_reducible assumption) _⟩ | exact ⟨_, _, Row.alloc (Row.alloc (by with_reducible assumption) _) _⟩) | (with_reducible refine Row.other ?_ (by first | omega | (simp; done) | (simp; omega)) _)))
        have c_s_0_5 := R_s_5.cell 0 rfl
        have c_s_1_5 := R_s_5.cell 1 rfl
        have l_s_5 := R_s_5.lt
        have R_x_5 : Row w5 (w3.heap.size) [.int .i64 B.id, .int .i64 B.kind, .int .i64 B.rooms, .int .i64 B.fr, .int .i64 B.un, .slice ca cn cc, .int .i64 B.pn, .int .i64 B.pd, .int .i64 B.fee, .slice (some ⟨g1, 0, none⟩) pm pm] := by (repeat' (first | (with_reducible assumption) | (with_reducible refine Row.new' _ _ _ (by first | rfl | (simp; done) | omega)) | (with_reducible refine Row.alloc ?_ _) | (with_reducible refine Row.drew ?_) | (with_reducible refine Row.drewN ?_ _) | (with_reducible refine Row.step ?_ (by with_reducible assumption)) | (with_reducible refine Row.set2' ?_ _ _; first | exact ⟨_, _, by with_reducible assumption⟩ | exact ⟨_, _, Row.alloc (by with_reducible assumption) _⟩ | exact ⟨_, _, Row.alloc (Row.alloc (by with_reducible assumption) _) _⟩) | (with_reducible refine Row.other ?_ (by first | omega | (simp; done) | (simp; omega)) _)))
        have c_x_0_5 := R_x_5.cell 0 rfl
        have c_x_1_5 := R_x_5.cell 1 rfl
        have c_x_2_5 := R_x_5.cell 2 rfl
        have c_x_3_5 := R_x_5.cell 3 rfl
        have c_x_4_5 := R_x_5.cell 4 rfl
        have c_x_5_5 := R_x_5.cell 5 rfl
        have c_x_6_5 := R_x_5.cell 6 rfl
        have c_x_7_5 := R_x_5.cell 7 rfl
        have c_x_8_5 := R_x_5.cell 8 rfl
        have c_x_9_5 := R_x_5.cell 9 rfl
        have z_x_0_5 := R_x_5.frozen 0
        have z_x_1_5 := R_x_5.frozen 1
        have z_x_2_5 := R_x_5.frozen 2
        have z_x_3_5 := R_x_5.frozen 3
        have z_x_4_5 := R_x_5.frozen 4
        have z_x_5_5 := R_x_5.frozen 5
        have z_x_6_5 := R_x_5.frozen 6
        have z_x_7_5 := R_x_5.frozen 7
        have z_x_8_5 := R_x_5.frozen 8
        have z_x_9_5 := R_x_5.frozen 9
        have l_x_5 := R_x_5.lt
        replace K := K.step (show Below w4.heap.size w4 w5 by (repeat' (first | (with_reducible exact Below.refl _ _) | (with_reducible assumption) | (with_reducible exact Bw.out (by with_reducible assumption)) | (with_reducible refine bw_alloc ?_ _) | (with_reducible refine bw_step ?_ (by with_reducible assumption)) | (with_reducible refine Below.alloc ?_ ?_ _) | (with_reducible refine Below.drew ?_) | (with_reducible refine below_drewN ?_ _) | (with_reducible refine Below.setCell ?_ ?_ _) | (with_reducible refine below_step ?_ (by with_reducible assumption) ?_) | (with_reducible exact Nat.le_refl _) | omega | (simp; omega) | (simp; done))))
        replace K1 := K1.step (show Below w4.heap.size w4 w5 by (repeat' (first | (with_reducible exact Below.refl _ _) | (with_reducible assumption) | (with_reducible exact Bw.out (by with_reducible assumption)) | (with_reducible refine bw_alloc ?_ _) | (with_reducible refine bw_step ?_ (by with_reducible assumption)) | (with_reducible refine Below.alloc ?_ ?_ _) | (with_reducible refine Below.drew ?_) | (with_reducible refine below_drewN ?_ _) | (with_reducible refine Below.setCell ?_ ?_ _) | (with_reducible refine below_step ?_ (by with_reducible assumption) ?_) | (with_reducible exact Nat.le_refl _) | omega | (simp; omega) | (simp; done))))
        have HB5 : Below w.heap.size w w5 := by (repeat' (first | (with_reducible exact Below.refl _ _) | (with_reducible assumption) | (with_reducible exact Bw.out (by with_reducible assumption)) | (with_reducible refine bw_alloc ?_ _) | (with_reducible refine bw_step ?_ (by with_reducible assumption)) | (with_reducible refine Below.alloc ?_ ?_ _) | (with_reducible refine Below.drew ?_) | (with_reducible refine below_drewN ?_ _) | (with_reducible refine Below.setCell ?_ ?_ _) | (with_reducible refine below_step ?_ (by with_reducible assumption) ?_) | (with_reducible exact Nat.le_refl _) | omega | (simp; omega) | (simp; done)))
        clear R_b_4 c_b_0_4 c_b_1_4 c_b_2_4 c_b_3_4 c_b_4_4 c_b_5_4 c_b_6_4 c_b_7_4 c_b_8_4 c_b_9_4 R_s_4 c_s_0_4 c_s_1_4 R_x_4 c_x_0_4 c_x_1_4 c_x_2_4 c_x_3_4 c_x_4_4 c_x_5_4 c_x_6_4 c_x_7_4 c_x_8_4 c_x_9_4 z_x_0_4 z_x_1_4 z_x_2_4 z_x_3_4 z_x_4_4 z_x_5_4 z_x_6_4 z_x_7_4 z_x_8_4 z_x_9_4 hb4 HB4
        by_cases hlt : k < c
        · obtain ⟨z, hz⟩ : ∃ z, B.picked.getD k 0 = z := ⟨_, rfl⟩
          have hkl : k < B.picked.length := by rw [HLP.out]; omega
          have Z : CellAt w5 bb (off + k) (.int .i64 z) := by rw [← hz]; exact K.picked.cellOf (by omega)
          have HSU : Hid (fullB L a (k + 1) B.picked = (ub || decide (L ≤ z))) := by show _ = _; rw [fullB_succ hk1 hkl, hT.out, hz]
          have hlt2 : B.fr + (k : Int) < s1 := by rw [HS1.out]; omega
          have i1 : (0 : Int) ≤ (k : Int) := by omega
          have i2 : (k : Int) < (pm : Int) := by omega
          have e1 : B.fr + (k : Int) - B.fr = (k : Int) := by omega
          have e2 : IntKind.i64.wrap (k : Int) = (k : Int) := IntWalk.i64_in _ (by omega)
          clear hz hkl
          cases ub with
          | true =>
            go_wp2_with fail
            refine AnyJ.beginP (fun w' : World => w'.cell? ⟨w.heap.size, 0, none⟩ = some (.int .i64 B.id) ∧ w'.cell? ⟨w.heap.size, 1, none⟩ = some (.int .i64 B.kind) ∧ w'.cell? ⟨w.heap.size, 2, none⟩ = some (.int .i64 B.rooms) ∧ w'.cell? ⟨w.heap.size, 3, none⟩ = some (.int .i64 B.fr) ∧ w'.cell? ⟨w.heap.size, 4, none⟩ = some (.int .i64 B.un) ∧ w'.cell? ⟨w.heap.size, 5, none⟩ = some (.slice ca cn cc) ∧ w'.cell? ⟨w.heap.size, 6, none⟩ = some (.int .i64 B.pn) ∧ w'.cell? ⟨w.heap.size, 7, none⟩ = some (.int .i64 B.pd) ∧ w'.cell? ⟨w.heap.size, 8, none⟩ = some (.int .i64 B.fee) ∧ w'.cell? ⟨w.heap.size, 9, none⟩ = some (.slice (some ⟨bb, off, none⟩) pm pc) ∧ w'.cell? ⟨w.heap.size + 1, 0, none⟩ = some (.int .i64 (s0)) ∧ w'.cell? ⟨w.heap.size + 1, 1, none⟩ = some (.int .i64 (s1)) ∧ w'.cell? ⟨w3.heap.size, 0, none⟩ = some (.int .i64 B.id) ∧ w'.cell? ⟨w3.heap.size, 1, none⟩ = some (.int .i64 B.kind) ∧ w'.cell? ⟨w3.heap.size, 2, none⟩ = some (.int .i64 B.rooms) ∧ w'.cell? ⟨w3.heap.size, 3, none⟩ = some (.int .i64 B.fr) ∧ w'.cell? ⟨w3.heap.size, 4, none⟩ = some (.int .i64 B.un) ∧ w'.cell? ⟨w3.heap.size, 5, none⟩ = some (.slice ca cn cc) ∧ w'.cell? ⟨w3.heap.size, 6, none⟩ = some (.int .i64 B.pn) ∧ w'.cell? ⟨w3.heap.size, 7, none⟩ = some (.int .i64 B.pd) ∧ w'.cell? ⟨w3.heap.size, 8, none⟩ = some (.int .i64 B.fee) ∧ w'.cell? ⟨w3.heap.size, 9, none⟩ = some (.slice (some ⟨g1, 0, none⟩) pm pm)) (fun _ => true) (by kernel_rfl) ?_ (fun hS5 => ?_)
            · exact (show ∀ (P S : World → Prop) (W : World), P W → (∀ w', P w' → S w') → S W from fun P S W h f => f W h) (fun w' : World => Row w' (w.heap.size) [.int .i64 B.id, .int .i64 B.kind, .int .i64 B.rooms, .int .i64 B.fr, .int .i64 B.un, .slice ca cn cc, .int .i64 B.pn, .int .i64 B.pd, .int .i64 B.fee, .slice (some ⟨bb, off, none⟩) pm pc] ∧ Row w' (w.heap.size + 1) [.int .i64 (s0), .int .i64 (s1)] ∧ Row w' (w3.heap.size) [.int .i64 B.id, .int .i64 B.kind, .int .i64 B.rooms, .int .i64 B.fr, .int .i64 B.un, .slice ca cn cc, .int .i64 B.pn, .int .i64 B.pd, .int .i64 B.fee, .slice (some ⟨g1, 0, none⟩) pm pm]) (fun w' : World => w'.cell? ⟨w.heap.size, 0, none⟩ = some (.int .i64 B.id) ∧ w'.cell? ⟨w.heap.size, 1, none⟩ = some (.int .i64 B.kind) ∧ w'.cell? ⟨w.heap.size, 2, none⟩ = some (.int .i64 B.rooms) ∧ w'.cell? ⟨w.heap.size, 3, none⟩ = some (.int .i64 B.fr) ∧ w'.cell? ⟨w.heap.size, 4, none⟩ = some (.int .i64 B.un) ∧ w'.cell? ⟨w.heap.size, 5, none⟩ = some (.slice ca cn cc) ∧ w'.cell? ⟨w.heap.size, 6, none⟩ = some (.int .i64 B.pn) ∧ w'.cell? ⟨w.heap.size, 7, none⟩ = some (.int .i64 B.pd) ∧ w'.cell? ⟨w.heap.size, 8, none⟩ = some (.int .i64 B.fee) ∧ w'.cell? ⟨w.heap.size, 9, none⟩ = some (.slice (some ⟨bb, off, none⟩) pm pc) ∧ w'.cell? ⟨w.heap.size + 1, 0, none⟩ = some (.int .i64 (s0)) ∧ w'.cell? ⟨w.heap.size + 1, 1, none⟩ = some (.int .i64 (s1)) ∧ w'.cell? ⟨w3.heap.size, 0, none⟩ = some (.int .i64 B.id) ∧ w'.cell? ⟨w3.heap.size, 1, none⟩ = some (.int .i64 B.kind) ∧ w'.cell? ⟨w3.heap.size, 2, none⟩ = some (.int .i64 B.rooms) ∧ w'.cell? ⟨w3.heap.size, 3, none⟩ = some (.int .i64 B.fr) ∧ w'.cell? ⟨w3.heap.size, 4, none⟩ = some (.int .i64 B.un) ∧ w'.cell? ⟨w3.heap.size, 5, none⟩ = some (.slice ca cn cc) ∧ w'.cell? ⟨w3.heap.size, 6, none⟩ = some (.int .i64 B.pn) ∧ w'.cell? ⟨w3.heap.size, 7, none⟩ = some (.int .i64 B.pd) ∧ w'.cell? ⟨w3.heap.size, 8, none⟩ = some (.int .i64 B.fee) ∧ w'.cell? ⟨w3.heap.size, 9, none⟩ = some (.slice (some ⟨g1, 0, none⟩) pm pm)) _ (⟨by (repeat' (first | (with_reducible assumption) | (with_reducible refine Row.new' _ _ _ (by first | rfl | (simp; done) | omega)) | (with_reducible refine Row.alloc ?_ _) | (with_reducible refine Row.drew ?_) | (with_reducible refine Row.drewN ?_ _) | (with_reducible refine Row.step ?_ (by with_reducible assumption)) | (with_reducible refine Row.set2' ?_ _ _; first | exact ⟨_, _, by with_reducible assumption⟩ | exact ⟨_, _, Row.alloc (by with_reducible assumption) _⟩ | exact ⟨_, _, Row.alloc (Row.alloc (by with_reducible assumption) _) _⟩) | (with_reducible refine Row.other ?_ (by first | omega | (simp; done) | (simp; omega)) _))), by (repeat' (first | (with_reducible assumption) | (with_reducible refine Row.new' _ _ _ (by first | rfl | (simp; done) | omega)) | (with_reducible refine Row.alloc ?_ _) | (with_reducible refine Row.drew ?_) | (with_reducible refine Row.drewN ?_ _) | (with_reducible refine Row.step ?_ (by with_reducible assumption)) | (with_reducible refine Row.set2' ?_ _ _; first | exact ⟨_, _, by with_reducible assumption⟩ | exact ⟨_, _, Row.alloc (by with_reducible assumption) _⟩ | exact ⟨_, _, Row.alloc (Row.alloc (by with_reducible assumption) _) _⟩) | (with_reducible refine Row.other ?_ (by first | omega | (simp; done) | (simp; omega)) _))), by (repeat' (first | (with_reducible assumption) | (with_reducible refine Row.new' _ _ _ (by first | rfl | (simp; done) | omega)) | (with_reducible refine Row.alloc ?_ _) | (with_reducible refine Row.drew ?_) | (with_reducible refine Row.drewN ?_ _) | (with_reducible refine Row.step ?_ (by with_reducible assumption)) | (with_reducible refine Row.set2' ?_ _ _; first | exact ⟨_, _, by with_reducible assumption⟩ | exact ⟨_, _, Row.alloc (by with_reducible assumption) _⟩ | exact ⟨_, _, Row.alloc (Row.alloc (by with_reducible assumption) _) _⟩) | (with_reducible refine Row.other ?_ (by first | omega | (simp; done) | (simp; omega)) _)))⟩) (fun w' ⟨hP0, hP1, hP2⟩ => ⟨hP0.cell 0 rfl, hP0.cell 1 rfl, hP0.cell 2 rfl, hP0.cell 3 rfl, hP0.cell 4 rfl, hP0.cell 5 rfl, hP0.cell 6 rfl, hP0.cell 7 rfl, hP0.cell 8 rfl, hP0.cell 9 rfl, hP1.cell 0 rfl, hP1.cell 1 rfl, hP2.cell 0 rfl, hP2.cell 1 rfl, hP2.cell 2 rfl, hP2.cell 3 rfl, hP2.cell 4 rfl, hP2.cell 5 rfl, hP2.cell 6 rfl, hP2.cell 7 rfl, hP2.cell 8 rfl, hP2.cell 9 rfl⟩)
            refine AnyJ.takeD (i := 0) (d := some 66) (v := ?_) rfl (by kernel_rfl) (by kernel_rfl) (by kernel_rfl) (by kernel_rfl) (by kernel_rfl) (fun _ _ _ h => h) (Or.inl ⟨by kernel_rfl, ?_⟩) hS5 ?_
            rotate_left
            · intro w' hS
              clear hS
              go_simp
              try with_reducible rfl
            refine AnyJ.takeD (i := 1) (d := some 67) (v := ?_) rfl (by kernel_rfl) (by kernel_rfl) (by kernel_rfl) (by kernel_rfl) (by kernel_rfl) (fun _ _ _ h => h) (Or.inl ⟨by kernel_rfl, ?_⟩) hS5 ?_
            rotate_left
            · intro w' hS
              clear hS
              go_simp
              try with_reducible rfl
            refine AnyJ.takeD (i := 2) (d := some 68) (v := undef) rfl (by kernel_rfl) (by kernel_rfl) (by kernel_rfl) (by kernel_rfl) (by kernel_rfl) (fun _ _ _ h => h) (Or.inr ⟨by kernel_rfl, rfl⟩) hS5 ?_
            refine AnyJ.takeD (i := 3) (d := some 69) (v := undef) rfl (by kernel_rfl) (by kernel_rfl) (by kernel_rfl) (by kernel_rfl) (by kernel_rfl) (fun _ _ _ h => h) (Or.inr ⟨by kernel_rfl, rfl⟩) hS5 ?_
            refine AnyJ.takeD (i := 4) (d := some 70) (v := undef) rfl (by kernel_rfl) (by kernel_rfl) (by kernel_rfl) (by kernel_rfl) (by kernel_rfl) (fun _ _ _ h => h) (Or.inr ⟨by kernel_rfl, rfl⟩) hS5 ?_
            refine AnyJ.takeD (i := 5) (d := some 71) (v := undef) rfl (by kernel_rfl) (by kernel_rfl) (by kernel_rfl) (by kernel_rfl) (by kernel_rfl) (fun _ _ _ h => h) (Or.inr ⟨by kernel_rfl, rfl⟩) hS5 ?_
            refine AnyJ.takeD (i := 6) (d := some 72) (v := undef) rfl (by kernel_rfl) (by kernel_rfl) (by kernel_rfl) (by kernel_rfl) (by kernel_rfl) (fun _ _ _ h => h) (Or.inr ⟨by kernel_rfl, rfl⟩) hS5 ?_
            refine AnyJ.takeD (i := 7) (d := some 73) (v := undef) rfl (by kernel_rfl) (by kernel_rfl) (by kernel_rfl) (by kernel_rfl) (by kernel_rfl) (fun _ _ _ h => h) (Or.inr ⟨by kernel_rfl, rfl⟩) hS5 ?_
            refine AnyJ.takeD (i := 8) (d := some 74) (v := undef) rfl (by kernel_rfl) (by kernel_rfl) (by kernel_rfl) (by kernel_rfl) (by kernel_rfl) (fun _ _ _ h => h) (Or.inr ⟨by kernel_rfl, rfl⟩) hS5 ?_
            refine AnyJ.takeD (i := 9) (d := some 75) (v := undef) rfl (by kernel_rfl) (by kernel_rfl) (by kernel_rfl) (by kernel_rfl) (by kernel_rfl) (fun _ _ _ h => h) (Or.inr ⟨by kernel_rfl, rfl⟩) hS5 ?_
            refine AnyJ.takeD (i := 10) (d := some 76) (v := undef) rfl (by kernel_rfl) (by kernel_rfl) (by kernel_rfl) (by kernel_rfl) (by kernel_rfl) (fun _ _ _ h => h) (Or.inr ⟨by kernel_rfl, rfl⟩) hS5 ?_
            refine AnyJ.takeD (i := 11) (d := some 77) (v := undef) rfl (by kernel_rfl) (by kernel_rfl) (by kernel_rfl) (by kernel_rfl) (by kernel_rfl) (fun _ _ _ h => h) (Or.inr ⟨by kernel_rfl, rfl⟩) hS5 ?_
            refine AnyJ.takeD (i := 12) (d := some 78) (v := undef) rfl (by kernel_rfl) (by kernel_rfl) (by kernel_rfl) (by kernel_rfl) (by kernel_rfl) (fun _ _ _ h => h) (Or.inr ⟨by kernel_rfl, rfl⟩) hS5 ?_
            refine AnyJ.takeD (i := 13) (d := some 79) (v := undef) rfl (by kernel_rfl) (by kernel_rfl) (by kernel_rfl) (by kernel_rfl) (by kernel_rfl) (fun _ _ _ h => h) (Or.inr ⟨by kernel_rfl, rfl⟩) hS5 ?_
            refine AnyJ.takeD (i := 14) (d := some 80) (v := undef) rfl (by kernel_rfl) (by kernel_rfl) (by kernel_rfl) (by kernel_rfl) (by kernel_rfl) (fun _ _ _ h => h) (Or.inr ⟨by kernel_rfl, rfl⟩) hS5 ?_
            refine AnyJ.takeD (i := 15) (d := some 81) (v := ?_) rfl (by kernel_rfl) (by kernel_rfl) (by kernel_rfl) (by kernel_rfl) (by kernel_rfl) (fun _ _ _ h => h) (Or.inl ⟨by kernel_rfl, ?_⟩) hS5 ?_
            rotate_left
            · intro w' hS
              clear hS
              go_simp
              try with_reducible rfl
            refine AnyJ.takeD (i := 16) (d := some 12) (v := ?_) rfl (by kernel_rfl) (by kernel_rfl) (by kernel_rfl) (by kernel_rfl) (by kernel_rfl) (fun _ _ _ h => h) (Or.inl ⟨by kernel_rfl, ?_⟩) hS5 ?_
            rotate_left
            · intro w' hS
              clear hS
              go_simp
              try with_reducible rfl
            refine AnyJ.done (by kernel_rfl) ?_ _
            clear hS5
            simp only [Act.put, List.setIfInBounds_toArray, List.set_cons_zero, List.set_cons_succ]
            go_wp2_with fail
            go_roundw
            case rel => exact ⟨k + 1, true, by omega, by omega, congrArg (Value.int .i64) (by omega), rfl, HSU, (by show Below _ _ _; exact hbk5.drew)⟩
            case measure => simp [intOf]; omega
          | false =>
            by_cases hzL : L ≤ z
            · have HSV : Hid (fullB L a (k + 1) B.picked = true) := by show _ = _; rw [HSU.out]; simp [hzL]
              go_wp2_with fail
              refine AnyJ.beginP (fun w' : World => w'.cell? ⟨w.heap.size, 0, none⟩ = some (.int .i64 B.id) ∧ w'.cell? ⟨w.heap.size, 1, none⟩ = some (.int .i64 B.kind) ∧ w'.cell? ⟨w.heap.size, 2, none⟩ = some (.int .i64 B.rooms) ∧ w'.cell? ⟨w.heap.size, 3, none⟩ = some (.int .i64 B.fr) ∧ w'.cell? ⟨w.heap.size, 4, none⟩ = some (.int .i64 B.un) ∧ w'.cell? ⟨w.heap.size, 5, none⟩ = some (.slice ca cn cc) ∧ w'.cell? ⟨w.heap.size, 6, none⟩ = some (.int .i64 B.pn) ∧ w'.cell? ⟨w.heap.size, 7, none⟩ = some (.int .i64 B.pd) ∧ w'.cell? ⟨w.heap.size, 8, none⟩ = some (.int .i64 B.fee) ∧ w'.cell? ⟨w.heap.size, 9, none⟩ = some (.slice (some ⟨bb, off, none⟩) pm pc) ∧ w'.cell? ⟨w.heap.size + 1, 0, none⟩ = some (.int .i64 (s0)) ∧ w'.cell? ⟨w.heap.size + 1, 1, none⟩ = some (.int .i64 (s1)) ∧ w'.cell? ⟨w3.heap.size, 0, none⟩ = some (.int .i64 B.id) ∧ w'.cell? ⟨w3.heap.size, 1, none⟩ = some (.int .i64 B.kind) ∧ w'.cell? ⟨w3.heap.size, 2, none⟩ = some (.int .i64 B.rooms) ∧ w'.cell? ⟨w3.heap.size, 3, none⟩ = some (.int .i64 B.fr) ∧ w'.cell? ⟨w3.heap.size, 4, none⟩ = some (.int .i64 B.un) ∧ w'.cell? ⟨w3.heap.size, 5, none⟩ = some (.slice ca cn cc) ∧ w'.cell? ⟨w3.heap.size, 6, none⟩ = some (.int .i64 B.pn) ∧ w'.cell? ⟨w3.heap.size, 7, none⟩ = some (.int .i64 B.pd) ∧ w'.cell? ⟨w3.heap.size, 8, none⟩ = some (.int .i64 B.fee) ∧ w'.cell? ⟨w3.heap.size, 9, none⟩ = some (.slice (some ⟨g1, 0, none⟩) pm pm) ∧ w'.cell? ⟨bb, (off + k), none⟩ = some (.int .i64 z)) (fun _ => true) (by kernel_rfl) ?_ (fun hS5 => ?_)
              · exact (show ∀ (P S : World → Prop) (W : World), P W → (∀ w', P w' → S w') → S W from fun P S W h f => f W h) (fun w' : World => Row w' (w.heap.size) [.int .i64 B.id, .int .i64 B.kind, .int .i64 B.rooms, .int .i64 B.fr, .int .i64 B.un, .slice ca cn cc, .int .i64 B.pn, .int .i64 B.pd, .int .i64 B.fee, .slice (some ⟨bb, off, none⟩) pm pc] ∧ Row w' (w.heap.size + 1) [.int .i64 (s0), .int .i64 (s1)] ∧ Row w' (w3.heap.size) [.int .i64 B.id, .int .i64 B.kind, .int .i64 B.rooms, .int .i64 B.fr, .int .i64 B.un, .slice ca cn cc, .int .i64 B.pn, .int .i64 B.pd, .int .i64 B.fee, .slice (some ⟨g1, 0, none⟩) pm pm] ∧ w'.cell? ⟨bb, (off + k), none⟩ = some (.int .i64 z)) (fun w' : World => w'.cell? ⟨w.heap.size, 0, none⟩ = some (.int .i64 B.id) ∧ w'.cell? ⟨w.heap.size, 1, none⟩ = some (.int .i64 B.kind) ∧ w'.cell? ⟨w.heap.size, 2, none⟩ = some (.int .i64 B.rooms) ∧ w'.cell? ⟨w.heap.size, 3, none⟩ = some (.int .i64 B.fr) ∧ w'.cell? ⟨w.heap.size, 4, none⟩ = some (.int .i64 B.un) ∧ w'.cell? ⟨w.heap.size, 5, none⟩ = some (.slice ca cn cc) ∧ w'.cell? ⟨w.heap.size, 6, none⟩ = some (.int .i64 B.pn) ∧ w'.cell? ⟨w.heap.size, 7, none⟩ = some (.int .i64 B.pd) ∧ w'.cell? ⟨w.heap.size, 8, none⟩ = some (.int .i64 B.fee) ∧ w'.cell? ⟨w.heap.size, 9, none⟩ = some (.slice (some ⟨bb, off, none⟩) pm pc) ∧ w'.cell? ⟨w.heap.size + 1, 0, none⟩ = some (.int .i64 (s0)) ∧ w'.cell? ⟨w.heap.size + 1, 1, none⟩ = some (.int .i64 (s1)) ∧ w'.cell? ⟨w3.heap.size, 0, none⟩ = some (.int .i64 B.id) ∧ w'.cell? ⟨w3.heap.size, 1, none⟩ = some (.int .i64 B.kind) ∧ w'.cell? ⟨w3.heap.size, 2, none⟩ = some (.int .i64 B.rooms) ∧ w'.cell? ⟨w3.heap.size, 3, none⟩ = some (.int .i64 B.fr) ∧ w'.cell? ⟨w3.heap.size, 4, none⟩ = some (.int .i64 B.un) ∧ w'.cell? ⟨w3.heap.size, 5, none⟩ = some (.slice ca cn cc) ∧ w'.cell? ⟨w3.heap.size, 6, none⟩ = some (.int .i64 B.pn) ∧ w'.cell? ⟨w3.heap.size, 7, none⟩ = some (.int .i64 B.pd) ∧ w'.cell? ⟨w3.heap.size, 8, none⟩ = some (.int .i64 B.fee) ∧ w'.cell? ⟨w3.heap.size, 9, none⟩ = some (.slice (some ⟨g1, 0, none⟩) pm pm) ∧ w'.cell? ⟨bb, (off + k), none⟩ = some (.int .i64 z)) _ (⟨by (repeat' (first | (with_reducible assumption) | (with_reducible refine Row.new' _ _ _ (by first | rfl | (simp; done) | omega)) | (with_reducible refine Row.alloc ?_ _) | (with_reducible refine Row.drew ?_) | (with_reducible refine Row.drewN ?_ _) | (with_reducible refine Row.step ?_ (by with_reducible assumption)) | (with_reducible refine Row.set2' ?_ _ _; first | exact ⟨_, _, by with_reducible assumption⟩ | exact ⟨_, _, Row.alloc (by with_reducible assumption) _⟩ | exact ⟨_, _, Row.alloc (Row.alloc (by with_reducible assumption) _) _⟩) | (with_reducible refine Row.other ?_ (by first | omega | (simp; done) | (simp; omega)) _))), by (repeat' (first | (with_reducible assumption) | (with_reducible refine Row.new' _ _ _ (by first | rfl | (simp; done) | omega)) | (with_reducible refine Row.alloc ?_ _) | (with_reducible refine Row.drew ?_) | (with_reducible refine Row.drewN ?_ _) | (with_reducible refine Row.step ?_ (by with_reducible assumption)) | (with_reducible refine Row.set2' ?_ _ _; first | exact ⟨_, _, by with_reducible assumption⟩ | exact ⟨_, _, Row.alloc (by with_reducible assumption) _⟩ | exact ⟨_, _, Row.alloc (Row.alloc (by with_reducible assumption) _) _⟩) | (with_reducible refine Row.other ?_ (by first | omega | (simp; done) | (simp; omega)) _))), by (repeat' (first | (with_reducible assumption) | (with_reducible refine Row.new' _ _ _ (by first | rfl | (simp; done) | omega)) | (with_reducible refine Row.alloc ?_ _) | (with_reducible refine Row.drew ?_) | (with_reducible refine Row.drewN ?_ _) | (with_reducible refine Row.step ?_ (by with_reducible assumption)) | (with_reducible refine Row.set2' ?_ _ _; first | exact ⟨_, _, by with_reducible assumption⟩ | exact ⟨_, _, Row.alloc (by with_reducible assumption) _⟩ | exact ⟨_, _, Row.alloc (Row.alloc (by with_reducible assumption) _) _⟩) | (with_reducible refine Row.other ?_ (by first | omega | (simp; done) | (simp; omega)) _))), CellAt.out (by (repeat' (first | (with_reducible assumption) | (with_reducible refine CellAt.drew ?_) | (with_reducible refine CellAt.drewN ?_ _) | (with_reducible refine CellAt.alloc ?_ _) | (with_reducible refine CellAt.step ?_ (by with_reducible assumption)))))⟩) (fun w' ⟨hP0, hP1, hP2, hF0⟩ => ⟨hP0.cell 0 rfl, hP0.cell 1 rfl, hP0.cell 2 rfl, hP0.cell 3 rfl, hP0.cell 4 rfl, hP0.cell 5 rfl, hP0.cell 6 rfl, hP0.cell 7 rfl, hP0.cell 8 rfl, hP0.cell 9 rfl, hP1.cell 0 rfl, hP1.cell 1 rfl, hP2.cell 0 rfl, hP2.cell 1 rfl, hP2.cell 2 rfl, hP2.cell 3 rfl, hP2.cell 4 rfl, hP2.cell 5 rfl, hP2.cell 6 rfl, hP2.cell 7 rfl, hP2.cell 8 rfl, hP2.cell 9 rfl, hF0⟩)
              refine AnyJ.takeD (i := 0) (d := some 66) (v := ?_) rfl (by kernel_rfl) (by kernel_rfl) (by kernel_rfl) (by kernel_rfl) (by kernel_rfl) (fun _ _ _ h => h) (Or.inl ⟨by kernel_rfl, ?_⟩) hS5 ?_
              rotate_left
              · intro w' hS
                clear hS
                go_simp
                try with_reducible rfl
              refine AnyJ.takeD (i := 1) (d := some 67) (v := ?_) rfl (by kernel_rfl) (by kernel_rfl) (by kernel_rfl) (by kernel_rfl) (by kernel_rfl) (fun _ _ _ h => h) (Or.inl ⟨by kernel_rfl, ?_⟩) hS5 ?_
              rotate_left
              · intro w' hS
                clear hS
                go_simp
                try with_reducible rfl
              refine AnyJ.takeD (i := 2) (d := some 68) (v := ?_) rfl (by kernel_rfl) (by kernel_rfl) (by kernel_rfl) (by kernel_rfl) (by kernel_rfl) (fun _ _ _ h => h) (Or.inl ⟨by kernel_rfl, ?_⟩) hS5 ?_
              rotate_left
              · intro w' hS
                clear hS
                go_simp
                try with_reducible rfl
              refine AnyJ.takeD (i := 3) (d := some 69) (v := ?_) rfl (by kernel_rfl) (by kernel_rfl) (by kernel_rfl) (by kernel_rfl) (by kernel_rfl) (fun _ _ _ h => h) (Or.inl ⟨by kernel_rfl, ?_⟩) hS5 ?_
              rotate_left
              · intro w' hS
                obtain ⟨sF0, sF1, sF2, sF3, sF4, sF5, sF6, sF7, sF8, sF9, sF10, sF11, sF12, sF13, sF14, sF15, sF16, sF17, sF18, sF19, sF20, sF21, sF22⟩ := hS
                go_simp
                try with_reducible rfl
              refine AnyJ.takeD (i := 4) (d := some 70) (v := ?_) rfl (by kernel_rfl) (by kernel_rfl) (by kernel_rfl) (by kernel_rfl) (by kernel_rfl) (fun _ _ _ h => h) (Or.inl ⟨by kernel_rfl, ?_⟩) hS5 ?_
              rotate_left
              · intro w' hS
                clear hS
                go_simp
                try with_reducible rfl
              refine AnyJ.takeD (i := 5) (d := some 71) (v := ?_) rfl (by kernel_rfl) (by kernel_rfl) (by kernel_rfl) (by kernel_rfl) (by kernel_rfl) (fun _ _ _ h => h) (Or.inl ⟨by kernel_rfl, ?_⟩) hS5 ?_
              rotate_left
              · intro w' hS
                clear hS
                go_simp
                try with_reducible rfl
              refine AnyJ.takeD (i := 6) (d := some 72) (v := ?_) rfl (by kernel_rfl) (by kernel_rfl) (by kernel_rfl) (by kernel_rfl) (by kernel_rfl) (fun _ _ _ h => h) (Or.inl ⟨by kernel_rfl, ?_⟩) hS5 ?_
              rotate_left
              · intro w' hS
                clear hS
                go_simp
                try with_reducible rfl
              refine AnyJ.takeD (i := 7) (d := some 73) (v := ?_) rfl (by kernel_rfl) (by kernel_rfl) (by kernel_rfl) (by kernel_rfl) (by kernel_rfl) (fun _ _ _ h => h) (Or.inl ⟨by kernel_rfl, ?_⟩) hS5 ?_
              rotate_left
              · intro w' hS
                obtain ⟨sF0, sF1, sF2, sF3, sF4, sF5, sF6, sF7, sF8, sF9, sF10, sF11, sF12, sF13, sF14, sF15, sF16, sF17, sF18, sF19, sF20, sF21, sF22⟩ := hS
                go_simp
                try with_reducible rfl
              refine AnyJ.takeD (i := 8) (d := some 74) (v := ?_) rfl (by kernel_rfl) (by kernel_rfl) (by kernel_rfl) (by kernel_rfl) (by kernel_rfl) (fun _ _ _ h => h) (Or.inl ⟨by kernel_rfl, ?_⟩) hS5 ?_
              rotate_left
              · intro w' hS
                clear hS
                go_simp
                try with_reducible rfl
              refine AnyJ.takeD (i := 9) (d := some 75) (v := ?_) rfl (by kernel_rfl) (by kernel_rfl) (by kernel_rfl) (by kernel_rfl) (by kernel_rfl) (fun _ _ _ h => h) (Or.inl ⟨by kernel_rfl, ?_⟩) hS5 ?_
              rotate_left
              · intro w' hS
                clear hS
                go_simp
                try with_reducible rfl
              refine AnyJ.takeD (i := 10) (d := some 76) (v := ?_) rfl (by kernel_rfl) (by kernel_rfl) (by kernel_rfl) (by kernel_rfl) (by kernel_rfl) (fun _ _ _ h => h) (Or.inl ⟨by kernel_rfl, ?_⟩) hS5 ?_
              rotate_left
              · intro w' hS
                obtain ⟨sF0, sF1, sF2, sF3, sF4, sF5, sF6, sF7, sF8, sF9, sF10, sF11, sF12, sF13, sF14, sF15, sF16, sF17, sF18, sF19, sF20, sF21, sF22⟩ := hS
                go_simp
                try with_reducible rfl
              refine AnyJ.takeD (i := 11) (d := some 77) (v := ?_) rfl (by kernel_rfl) (by kernel_rfl) (by kernel_rfl) (by kernel_rfl) (by kernel_rfl) (fun _ _ _ h => h) (Or.inl ⟨by kernel_rfl, ?_⟩) hS5 ?_
              rotate_left
              · intro w' hS
                obtain ⟨sF0, sF1, sF2, sF3, sF4, sF5, sF6, sF7, sF8, sF9, sF10, sF11, sF12, sF13, sF14, sF15, sF16, sF17, sF18, sF19, sF20, sF21, sF22⟩ := hS
                go_simp
                try with_reducible rfl
              refine AnyJ.takeD (i := 12) (d := some 78) (v := ?_) rfl (by kernel_rfl) (by kernel_rfl) (by kernel_rfl) (by kernel_rfl) (by kernel_rfl) (fun _ _ _ h => h) (Or.inl ⟨by kernel_rfl, ?_⟩) hS5 ?_
              rotate_left
              · intro w' hS
                clear hS
                go_simp
                try with_reducible rfl
              refine AnyJ.one (i := 13) (by kernel_rfl) rfl (fun Kz hKz => ?_)
              go_simp
              refine (r_limit B day L ca cn cc (some ⟨bb, off, none⟩) pm pc _ (K.step (by (repeat' (first | (with_reducible exact Below.refl _ _) | (with_reducible assumption) | (with_reducible exact Bw.out (by with_reducible assumption)) | (with_reducible refine bw_alloc ?_ _) | (with_reducible refine bw_step ?_ (by with_reducible assumption)) | (with_reducible refine Below.alloc ?_ ?_ _) | (with_reducible refine Below.drew ?_) | (with_reducible refine below_drewN ?_ _) | (with_reducible refine Below.setCell ?_ ?_ _) | (with_reducible refine below_step ?_ (by with_reducible assumption) ?_) | (with_reducible exact Nat.le_refl _) | omega | (simp; omega) | (simp; done))))) HOK.out HL.out).mono ?_
              rintro e w6 ⟨rfl, hb6⟩
              have R_b_6 : Row w6 (w.heap.size) [.int .i64 B.id, .int .i64 B.kind, .int .i64 B.rooms, .int .i64 B.fr, .int .i64 B.un, .slice ca cn cc, .int .i64 B.pn, .int .i64 B.pd, .int .i64 B.fee, .slice (some ⟨bb, off, none⟩) pm pc] := by (repeat' (first | (with_reducible assumption) | (with_reducible refine Row.new' _ _ _ (by first | rfl | (simp; done) | omega)) | (with_reducible refine Row.alloc ?_ _) | (with_reducible refine Row.drew ?_) | (with_reducible refine Row.drewN ?_ _) | (with_reducible refine Row.step ?_ (by with_reducible assumption)) | (with_reducible refine Row.set2' ?_ _ _; first | exact ⟨_, _, by with_reducible assumption⟩ | exact ⟨_, _, Row.alloc (by with_reducible assumption) _⟩ | exact ⟨_, _, Row.alloc (Row.alloc (by with_reducible assumption) _) _⟩) | (with_reducible refine Row.other ?_ (by first | omega | (simp; done) | (simp; omega)) _)))
              have c_b_0_6 := R_b_6.cell 0 rfl
              have c_b_1_6 := R_b_6.cell 1 rfl
              have c_b_2_6 := R_b_6.cell 2 rfl
              have c_b_3_6 := R_b_6.cell 3 rfl
              have c_b_4_6 := R_b_6.cell 4 rfl
              have c_b_5_6 := R_b_6.cell 5 rfl
              have c_b_6_6 := R_b_6.cell 6 rfl
              have c_b_7_6 := R_b_6.cell 7 rfl
              have c_b_8_6 := R_b_6.cell 8 rfl
              have c_b_9_6 := R_b_6.cell 9 rfl
              have l_b_6 := R_b_6.lt
              have R_s_6 : Row w6 (w.heap.size + 1) [.int .i64 (s0), .int .i64 (s1)] := by (repeat' (first | (with_reducible assumption) | (with_reducible refine Row.new' _ _ _ (by first | rfl | (simp; done) | omega)) | (with_reducible refine Row.alloc ?_ _) | (with_reducible refine Row.drew ?_) | (with_reducible refine Row.drewN ?_ _) | (with_reducible refine Row.step ?_ (by with_reducible assumption)) | (with_reducible refine Row.set2' ?_ _ _; first | exact ⟨_, _, by with_reducible assumption⟩ | exact ⟨_, _, Row.alloc (by with_reducible assumption) _⟩ | exact ⟨_, _, Row.alloc (Row.alloc (by with_reducible assumption) _) _⟩) | (with_reducible refine Row.other ?_ (by first | omega | (simp; done) | (simp; omega)) _)))
              have c_s_0_6 := R_s_6.cell 0 rfl
              have c_s_1_6 := R_s_6.cell 1 rfl
              have l_s_6 := R_s_6.lt
              have R_x_6 : Row w6 (w3.heap.size) [.int .i64 B.id, .int .i64 B.kind, .int .i64 B.rooms, .int .i64 B.fr, .int .i64 B.un, .slice ca cn cc, .int .i64 B.pn, .int .i64 B.pd, .int .i64 B.fee, .slice (some ⟨g1, 0, none⟩) pm pm] := by (repeat' (first | (with_reducible assumption) | (with_reducible refine Row.new' _ _ _ (by first | rfl | (simp; done) | omega)) | (with_reducible refine Row.alloc ?_ _) | (with_reducible refine Row.drew ?_) | (with_reducible refine Row.drewN ?_ _) | (with_reducible refine Row.step ?_ (by with_reducible assumption)) | (with_reducible refine Row.set2' ?_ _ _; first | exact ⟨_, _, by with_reducible assumption⟩ | exact ⟨_, _, Row.alloc (by with_reducible assumption) _⟩ | exact ⟨_, _, Row.alloc (Row.alloc (by with_reducible assumption) _) _⟩) | (with_reducible refine Row.other ?_ (by first | omega | (simp; done) | (simp; omega)) _)))
              have c_x_0_6 := R_x_6.cell 0 rfl
              have c_x_1_6 := R_x_6.cell 1 rfl
              have c_x_2_6 := R_x_6.cell 2 rfl
              have c_x_3_6 := R_x_6.cell 3 rfl
              have c_x_4_6 := R_x_6.cell 4 rfl
              have c_x_5_6 := R_x_6.cell 5 rfl
              have c_x_6_6 := R_x_6.cell 6 rfl
              have c_x_7_6 := R_x_6.cell 7 rfl
              have c_x_8_6 := R_x_6.cell 8 rfl
              have c_x_9_6 := R_x_6.cell 9 rfl
              have z_x_0_6 := R_x_6.frozen 0
              have z_x_1_6 := R_x_6.frozen 1
              have z_x_2_6 := R_x_6.frozen 2
              have z_x_3_6 := R_x_6.frozen 3
              have z_x_4_6 := R_x_6.frozen 4
              have z_x_5_6 := R_x_6.frozen 5
              have z_x_6_6 := R_x_6.frozen 6
              have z_x_7_6 := R_x_6.frozen 7
              have z_x_8_6 := R_x_6.frozen 8
              have z_x_9_6 := R_x_6.frozen 9
              have l_x_6 := R_x_6.lt
              replace K := K.step (show Below w5.heap.size w5 w6 by (repeat' (first | (with_reducible exact Below.refl _ _) | (with_reducible assumption) | (with_reducible exact Bw.out (by with_reducible assumption)) | (with_reducible refine bw_alloc ?_ _) | (with_reducible refine bw_step ?_ (by with_reducible assumption)) | (with_reducible refine Below.alloc ?_ ?_ _) | (with_reducible refine Below.drew ?_) | (with_reducible refine below_drewN ?_ _) | (with_reducible refine Below.setCell ?_ ?_ _) | (with_reducible refine below_step ?_ (by with_reducible assumption) ?_) | (with_reducible exact Nat.le_refl _) | omega | (simp; omega) | (simp; done))))
              replace K1 := K1.step (show Below w5.heap.size w5 w6 by (repeat' (first | (with_reducible exact Below.refl _ _) | (with_reducible assumption) | (with_reducible exact Bw.out (by with_reducible assumption)) | (with_reducible refine bw_alloc ?_ _) | (with_reducible refine bw_step ?_ (by with_reducible assumption)) | (with_reducible refine Below.alloc ?_ ?_ _) | (with_reducible refine Below.drew ?_) | (with_reducible refine below_drewN ?_ _) | (with_reducible refine Below.setCell ?_ ?_ _) | (with_reducible refine below_step ?_ (by with_reducible assumption) ?_) | (with_reducible exact Nat.le_refl _) | omega | (simp; omega) | (simp; done))))
              have HB6 : Below w.heap.size w w6 := by (repeat' (first | (with_reducible exact Below.refl _ _) | (with_reducible assumption) | (with_reducible exact Bw.out (by with_reducible assumption)) | (with_reducible refine bw_alloc ?_ _) | (with_reducible refine bw_step ?_ (by with_reducible assumption)) | (with_reducible refine Below.alloc ?_ ?_ _) | (with_reducible refine Below.drew ?_) | (with_reducible refine below_drewN ?_ _) | (with_reducible refine Below.setCell ?_ ?_ _) | (with_reducible refine below_step ?_ (by with_reducible assumption) ?_) | (with_reducible exact Nat.le_refl _) | omega | (simp; omega) | (simp; done)))
              obtain ⟨sF0, sF1, sF2, sF3, sF4, sF5, sF6, sF7, sF8, sF9, sF10, sF11, sF12, sF13, sF14, sF15, sF16, sF17, sF18, sF19, sF20, sF21, sF22⟩ := hS5
              have hS6 : (fun w' : World => w'.cell? ⟨w.heap.size, 0, none⟩ = some (.int .i64 B.id) ∧ w'.cell? ⟨w.heap.size, 1, none⟩ = some (.int .i64 B.kind) ∧ w'.cell? ⟨w.heap.size, 2, none⟩ = some (.int .i64 B.rooms) ∧ w'.cell? ⟨w.heap.size, 3, none⟩ = some (.int .i64 B.fr) ∧ w'.cell? ⟨w.heap.size, 4, none⟩ = some (.int .i64 B.un) ∧ w'.cell? ⟨w.heap.size, 5, none⟩ = some (.slice ca cn cc) ∧ w'.cell? ⟨w.heap.size, 6, none⟩ = some (.int .i64 B.pn) ∧ w'.cell? ⟨w.heap.size, 7, none⟩ = some (.int .i64 B.pd) ∧ w'.cell? ⟨w.heap.size, 8, none⟩ = some (.int .i64 B.fee) ∧ w'.cell? ⟨w.heap.size, 9, none⟩ = some (.slice (some ⟨bb, off, none⟩) pm pc) ∧ w'.cell? ⟨w.heap.size + 1, 0, none⟩ = some (.int .i64 (s0)) ∧ w'.cell? ⟨w.heap.size + 1, 1, none⟩ = some (.int .i64 (s1)) ∧ w'.cell? ⟨w3.heap.size, 0, none⟩ = some (.int .i64 B.id) ∧ w'.cell? ⟨w3.heap.size, 1, none⟩ = some (.int .i64 B.kind) ∧ w'.cell? ⟨w3.heap.size, 2, none⟩ = some (.int .i64 B.rooms) ∧ w'.cell? ⟨w3.heap.size, 3, none⟩ = some (.int .i64 B.fr) ∧ w'.cell? ⟨w3.heap.size, 4, none⟩ = some (.int .i64 B.un) ∧ w'.cell? ⟨w3.heap.size, 5, none⟩ = some (.slice ca cn cc) ∧ w'.cell? ⟨w3.heap.size, 6, none⟩ = some (.int .i64 B.pn) ∧ w'.cell? ⟨w3.heap.size, 7, none⟩ = some (.int .i64 B.pd) ∧ w'.cell? ⟨w3.heap.size, 8, none⟩ = some (.int .i64 B.fee) ∧ w'.cell? ⟨w3.heap.size, 9, none⟩ = some (.slice (some ⟨g1, 0, none⟩) pm pm) ∧ w'.cell? ⟨bb, (off + k), none⟩ = some (.int .i64 z)) w6 := ⟨c_b_0_6, c_b_1_6, c_b_2_6, c_b_3_6, c_b_4_6, c_b_5_6, c_b_6_6, c_b_7_6, c_b_8_6, c_b_9_6, c_s_0_6, c_s_1_6, c_x_0_6, c_x_1_6, c_x_2_6, c_x_3_6, c_x_4_6, c_x_5_6, c_x_6_6, c_x_7_6, c_x_8_6, c_x_9_6, (by first | exact (CellAt.step sF22 (by (repeat' (first | (with_reducible exact Below.refl _ _) | (with_reducible assumption) | (with_reducible exact Bw.out (by with_reducible assumption)) | (with_reducible refine bw_alloc ?_ _) | (with_reducible refine bw_step ?_ (by with_reducible assumption)) | (with_reducible refine Below.alloc ?_ ?_ _) | (with_reducible refine Below.drew ?_) | (with_reducible refine below_drewN ?_ _) | (with_reducible refine Below.setCell ?_ ?_ _) | (with_reducible refine below_step ?_ (by with_reducible assumption) ?_) | (with_reducible exact Nat.le_refl _) | omega | (simp; omega) | (simp; done))))).out | exact SlC.step sF22 (by (repeat' (first | (with_reducible exact Below.refl _ _) | (with_reducible assumption) | (with_reducible exact Bw.out (by with_reducible assumption)) | (with_reducible refine bw_alloc ?_ _) | (with_reducible refine bw_step ?_ (by with_reducible assumption)) | (with_reducible refine Below.alloc ?_ ?_ _) | (with_reducible refine Below.drew ?_) | (with_reducible refine below_drewN ?_ _) | (with_reducible refine Below.setCell ?_ ?_ _) | (with_reducible refine below_step ?_ (by with_reducible assumption) ?_) | (with_reducible exact Nat.le_refl _) | omega | (simp; omega) | (simp; done)))))⟩
              clear sF0 sF1 sF2 sF3 sF4 sF5 sF6 sF7 sF8 sF9 sF10 sF11 sF12 sF13 sF14 sF15 sF16 sF17 sF18 sF19 sF20 sF21 sF22
              refine hKz _ _ (fun _ => hS6) ?_
              clear hKz Kz
              clear R_b_5 c_b_0_5 c_b_1_5 c_b_2_5 c_b_3_5 c_b_4_5 c_b_5_5 c_b_6_5 c_b_7_5 c_b_8_5 c_b_9_5 R_s_5 c_s_0_5 c_s_1_5 R_x_5 c_x_0_5 c_x_1_5 c_x_2_5 c_x_3_5 c_x_4_5 c_x_5_5 c_x_6_5 c_x_7_5 c_x_8_5 c_x_9_5 z_x_0_5 z_x_1_5 z_x_2_5 z_x_3_5 z_x_4_5 z_x_5_5 z_x_6_5 z_x_7_5 z_x_8_5 z_x_9_5 hb5 HB5
              refine AnyJ.takeD (i := 14) (d := some 80) (v := ?_) rfl (by kernel_rfl) (by kernel_rfl) (by kernel_rfl) (by kernel_rfl) (by kernel_rfl) (fun _ _ _ h => h) (Or.inl ⟨by kernel_rfl, ?_⟩) hS6 ?_
              rotate_left
              · intro w' hS
                clear hS
                go_simp
                try with_reducible rfl
              refine AnyJ.takeD (i := 15) (d := some 81) (v := ?_) rfl (by kernel_rfl) (by kernel_rfl) (by kernel_rfl) (by kernel_rfl) (by kernel_rfl) (fun _ _ _ h => h) (Or.inl ⟨by kernel_rfl, ?_⟩) hS6 ?_
              rotate_left
              · intro w' hS
                clear hS
                go_simp
                try with_reducible rfl
              refine AnyJ.takeD (i := 16) (d := some 12) (v := ?_) rfl (by kernel_rfl) (by kernel_rfl) (by kernel_rfl) (by kernel_rfl) (by kernel_rfl) (fun _ _ _ h => h) (Or.inl ⟨by kernel_rfl, ?_⟩) hS6 ?_
              rotate_left
              · intro w' hS
                clear hS
                go_simp
                try with_reducible rfl
              refine AnyJ.done (by kernel_rfl) ?_ _
              clear hS6
              simp only [Act.put, List.setIfInBounds_toArray, List.set_cons_zero, List.set_cons_succ]
              go_wp2_with fail
              go_roundw
              case rel => exact ⟨k + 1, true, by omega, by omega, congrArg (Value.int .i64) (by omega), (by first | rfl | exact congrArg Value.bool (by simp; omega)), HSV, (by show Below _ _ _; exact hbk5.drew.trans (hb6.mono hbk5.size))⟩
              case measure => simp [intOf]; omega
            · have HSV : Hid (fullB L a (k + 1) B.picked = false) := by show _ = _; rw [HSU.out]; simp [hzL]
              have hzL2 : z < L := by omega
              clear hzL
              go_wp2_with fail
              refine AnyJ.beginP (fun w' : World => w'.cell? ⟨w.heap.size, 0, none⟩ = some (.int .i64 B.id) ∧ w'.cell? ⟨w.heap.size, 1, none⟩ = some (.int .i64 B.kind) ∧ w'.cell? ⟨w.heap.size, 2, none⟩ = some (.int .i64 B.rooms) ∧ w'.cell? ⟨w.heap.size, 3, none⟩ = some (.int .i64 B.fr) ∧ w'.cell? ⟨w.heap.size, 4, none⟩ = some (.int .i64 B.un) ∧ w'.cell? ⟨w.heap.size, 5, none⟩ = some (.slice ca cn cc) ∧ w'.cell? ⟨w.heap.size, 6, none⟩ = some (.int .i64 B.pn) ∧ w'.cell? ⟨w.heap.size, 7, none⟩ = some (.int .i64 B.pd) ∧ w'.cell? ⟨w.heap.size, 8, none⟩ = some (.int .i64 B.fee) ∧ w'.cell? ⟨w.heap.size, 9, none⟩ = some (.slice (some ⟨bb, off, none⟩) pm pc) ∧ w'.cell? ⟨w.heap.size + 1, 0, none⟩ = some (.int .i64 (s0)) ∧ w'.cell? ⟨w.heap.size + 1, 1, none⟩ = some (.int .i64 (s1)) ∧ w'.cell? ⟨w3.heap.size, 0, none⟩ = some (.int .i64 B.id) ∧ w'.cell? ⟨w3.heap.size, 1, none⟩ = some (.int .i64 B.kind) ∧ w'.cell? ⟨w3.heap.size, 2, none⟩ = some (.int .i64 B.rooms) ∧ w'.cell? ⟨w3.heap.size, 3, none⟩ = some (.int .i64 B.fr) ∧ w'.cell? ⟨w3.heap.size, 4, none⟩ = some (.int .i64 B.un) ∧ w'.cell? ⟨w3.heap.size, 5, none⟩ = some (.slice ca cn cc) ∧ w'.cell? ⟨w3.heap.size, 6, none⟩ = some (.int .i64 B.pn) ∧ w'.cell? ⟨w3.heap.size, 7, none⟩ = some (.int .i64 B.pd) ∧ w'.cell? ⟨w3.heap.size, 8, none⟩ = some (.int .i64 B.fee) ∧ w'.cell? ⟨w3.heap.size, 9, none⟩ = some (.slice (some ⟨g1, 0, none⟩) pm pm) ∧ w'.cell? ⟨bb, (off + k), none⟩ = some (.int .i64 z)) (fun _ => true) (by kernel_rfl) ?_ (fun hS5 => ?_)
              · exact (show ∀ (P S : World → Prop) (W : World), P W → (∀ w', P w' → S w') → S W from fun P S W h f => f W h) (fun w' : World => Row w' (w.heap.size) [.int .i64 B.id, .int .i64 B.kind, .int .i64 B.rooms, .int .i64 B.fr, .int .i64 B.un, .slice ca cn cc, .int .i64 B.pn, .int .i64 B.pd, .int .i64 B.fee, .slice (some ⟨bb, off, none⟩) pm pc] ∧ Row w' (w.heap.size + 1) [.int .i64 (s0), .int .i64 (s1)] ∧ Row w' (w3.heap.size) [.int .i64 B.id, .int .i64 B.kind, .int .i64 B.rooms, .int .i64 B.fr, .int .i64 B.un, .slice ca cn cc, .int .i64 B.pn, .int .i64 B.pd, .int .i64 B.fee, .slice (some ⟨g1, 0, none⟩) pm pm] ∧ w'.cell? ⟨bb, (off + k), none⟩ = some (.int .i64 z)) (fun w' : World => w'.cell? ⟨w.heap.size, 0, none⟩ = some (.int .i64 B.id) ∧ w'.cell? ⟨w.heap.size, 1, none⟩ = some (.int .i64 B.kind) ∧ w'.cell? ⟨w.heap.size, 2, none⟩ = some (.int .i64 B.rooms) ∧ w'.cell? ⟨w.heap.size, 3, none⟩ = some (.int .i64 B.fr) ∧ w'.cell? ⟨w.heap.size, 4, none⟩ = some (.int .i64 B.un) ∧ w'.cell? ⟨w.heap.size, 5, none⟩ = some (.slice ca cn cc) ∧ w'.cell? ⟨w.heap.size, 6, none⟩ = some (.int .i64 B.pn) ∧ w'.cell? ⟨w.heap.size, 7, none⟩ = some (.int .i64 B.pd) ∧ w'.cell? ⟨w.heap.size, 8, none⟩ = some (.int .i64 B.fee) ∧ w'.cell? ⟨w.heap.size, 9, none⟩ = some (.slice (some ⟨bb, off, none⟩) pm pc) ∧ w'.cell? ⟨w.heap.size + 1, 0, none⟩ = some (.int .i64 (s0)) ∧ w'.cell? ⟨w.heap.size + 1, 1, none⟩ = some (.int .i64 (s1)) ∧ w'.cell? ⟨w3.heap.size, 0, none⟩ = some (.int .i64 B.id) ∧ w'.cell? ⟨w3.heap.size, 1, none⟩ = some (.int .i64 B.kind) ∧ w'.cell? ⟨w3.heap.size, 2, none⟩ = some (.int .i64 B.rooms) ∧ w'.cell? ⟨w3.heap.size, 3, none⟩ = some (.int .i64 B.fr) ∧ w'.cell? ⟨w3.heap.size, 4, none⟩ = some (.int .i64 B.un) ∧ w'.cell? ⟨w3.heap.size, 5, none⟩ = some (.slice ca cn cc) ∧ w'.cell? ⟨w3.heap.size, 6, none⟩ = some (.int .i64 B.pn) ∧ w'.cell? ⟨w3.heap.size, 7, none⟩ = some (.int .i64 B.pd) ∧ w'.cell? ⟨w3.heap.size, 8, none⟩ = some (.int .i64 B.fee) ∧ w'.cell? ⟨w3.heap.size, 9, none⟩ = some (.slice (some ⟨g1, 0, none⟩) pm pm) ∧ w'.cell? ⟨bb, (off + k), none⟩ = some (.int .i64 z)) _ (⟨by (repeat' (first | (with_reducible assumption) | (with_reducible refine Row.new' _ _ _ (by first | rfl | (simp; done) | omega)) | (with_reducible refine Row.alloc ?_ _) | (with_reducible refine Row.drew ?_) | (with_reducible refine Row.drewN ?_ _) | (with_reducible refine Row.step ?_ (by with_reducible assumption)) | (with_reducible refine Row.set2' ?_ _ _; first | exact ⟨_, _, by with_reducible assumption⟩ | exact ⟨_, _, Row.alloc (by with_reducible assumption) _⟩ | exact ⟨_, _, Row.alloc (Row.alloc (by with_reducible assumption) _) _⟩) | (with_reducible refine Row.other ?_ (by first | omega | (simp; done) | (simp; omega)) _))), by (repeat' (first | (with_reducible assumption) | (with_reducible refine Row.new' _ _ _ (by first | rfl | (simp; done) | omega)) | (with_reducible refine Row.alloc ?_ _) | (with_reducible refine Row.drew ?_) | (with_reducible refine Row.drewN ?_ _) | (with_reducible refine Row.step ?_ (by with_reducible assumption)) | (with_reducible refine Row.set2' ?_ _ _; first | exact ⟨_, _, by with_reducible assumption⟩ | exact ⟨_, _, Row.alloc (by with_reducible assumption) _⟩ | exact ⟨_, _, Row.alloc (Row.alloc (by with_reducible assumption) _) _⟩) | (with_reducible refine Row.other ?_ (by first | omega | (simp; done) | (simp; omega)) _))), by (repeat' (first | (with_reducible assumption) | (with_reducible refine Row.new' _ _ _ (by first | rfl | (simp; done) | omega)) | (with_reducible refine Row.alloc ?_ _) | (with_reducible refine Row.drew ?_) | (with_reducible refine Row.drewN ?_ _) | (with_reducible refine Row.step ?_ (by with_reducible assumption)) | (with_reducible refine Row.set2' ?_ _ _; first | exact ⟨_, _, by with_reducible assumption⟩ | exact ⟨_, _, Row.alloc (by with_reducible assumption) _⟩ | exact ⟨_, _, Row.alloc (Row.alloc (by with_reducible assumption) _) _⟩) | (with_reducible refine Row.other ?_ (by first | omega | (simp; done) | (simp; omega)) _))), CellAt.out (by (repeat' (first | (with_reducible assumption) | (with_reducible refine CellAt.drew ?_) | (with_reducible refine CellAt.drewN ?_ _) | (with_reducible refine CellAt.alloc ?_ _) | (with_reducible refine CellAt.step ?_ (by with_reducible assumption)))))⟩) (fun w' ⟨hP0, hP1, hP2, hF0⟩ => ⟨hP0.cell 0 rfl, hP0.cell 1 rfl, hP0.cell 2 rfl, hP0.cell 3 rfl, hP0.cell 4 rfl, hP0.cell 5 rfl, hP0.cell 6 rfl, hP0.cell 7 rfl, hP0.cell 8 rfl, hP0.cell 9 rfl, hP1.cell 0 rfl, hP1.cell 1 rfl, hP2.cell 0 rfl, hP2.cell 1 rfl, hP2.cell 2 rfl, hP2.cell 3 rfl, hP2.cell 4 rfl, hP2.cell 5 rfl, hP2.cell 6 rfl, hP2.cell 7 rfl, hP2.cell 8 rfl, hP2.cell 9 rfl, hF0⟩)
              refine AnyJ.takeD (i := 0) (d := some 66) (v := ?_) rfl (by kernel_rfl) (by kernel_rfl) (by kernel_rfl) (by kernel_rfl) (by kernel_rfl) (fun _ _ _ h => h) (Or.inl ⟨by kernel_rfl, ?_⟩) hS5 ?_
              rotate_left
              · intro w' hS
                clear hS
                go_simp
                try with_reducible rfl
              refine AnyJ.takeD (i := 1) (d := some 67) (v := ?_) rfl (by kernel_rfl) (by kernel_rfl) (by kernel_rfl) (by kernel_rfl) (by kernel_rfl) (fun _ _ _ h => h) (Or.inl ⟨by kernel_rfl, ?_⟩) hS5 ?_
              rotate_left
              · intro w' hS
                clear hS
                go_simp
                try with_reducible rfl
              refine AnyJ.takeD (i := 2) (d := some 68) (v := ?_) rfl (by kernel_rfl) (by kernel_rfl) (by kernel_rfl) (by kernel_rfl) (by kernel_rfl) (fun _ _ _ h => h) (Or.inl ⟨by kernel_rfl, ?_⟩) hS5 ?_
              rotate_left
              · intro w' hS
                clear hS
                go_simp
                try with_reducible rfl
              refine AnyJ.takeD (i := 3) (d := some 69) (v := ?_) rfl (by kernel_rfl) (by kernel_rfl) (by kernel_rfl) (by kernel_rfl) (by kernel_rfl) (fun _ _ _ h => h) (Or.inl ⟨by kernel_rfl, ?_⟩) hS5 ?_
              rotate_left
              · intro w' hS
                obtain ⟨sF0, sF1, sF2, sF3, sF4, sF5, sF6, sF7, sF8, sF9, sF10, sF11, sF12, sF13, sF14, sF15, sF16, sF17, sF18, sF19, sF20, sF21, sF22⟩ := hS
                go_simp
                try with_reducible rfl
              refine AnyJ.takeD (i := 4) (d := some 70) (v := ?_) rfl (by kernel_rfl) (by kernel_rfl) (by kernel_rfl) (by kernel_rfl) (by kernel_rfl) (fun _ _ _ h => h) (Or.inl ⟨by kernel_rfl, ?_⟩) hS5 ?_
              rotate_left
              · intro w' hS
                clear hS
                go_simp
                try with_reducible rfl
              refine AnyJ.takeD (i := 5) (d := some 71) (v := ?_) rfl (by kernel_rfl) (by kernel_rfl) (by kernel_rfl) (by kernel_rfl) (by kernel_rfl) (fun _ _ _ h => h) (Or.inl ⟨by kernel_rfl, ?_⟩) hS5 ?_
              rotate_left
              · intro w' hS
                clear hS
                go_simp
                try with_reducible rfl
              refine AnyJ.takeD (i := 6) (d := some 72) (v := ?_) rfl (by kernel_rfl) (by kernel_rfl) (by kernel_rfl) (by kernel_rfl) (by kernel_rfl) (fun _ _ _ h => h) (Or.inl ⟨by kernel_rfl, ?_⟩) hS5 ?_
              rotate_left
              · intro w' hS
                clear hS
                go_simp
                try with_reducible rfl
              refine AnyJ.takeD (i := 7) (d := some 73) (v := ?_) rfl (by kernel_rfl) (by kernel_rfl) (by kernel_rfl) (by kernel_rfl) (by kernel_rfl) (fun _ _ _ h => h) (Or.inl ⟨by kernel_rfl, ?_⟩) hS5 ?_
              rotate_left
              · intro w' hS
                obtain ⟨sF0, sF1, sF2, sF3, sF4, sF5, sF6, sF7, sF8, sF9, sF10, sF11, sF12, sF13, sF14, sF15, sF16, sF17, sF18, sF19, sF20, sF21, sF22⟩ := hS
                go_simp
                try with_reducible rfl
              refine AnyJ.takeD (i := 8) (d := some 74) (v := ?_) rfl (by kernel_rfl) (by kernel_rfl) (by kernel_rfl) (by kernel_rfl) (by kernel_rfl) (fun _ _ _ h => h) (Or.inl ⟨by kernel_rfl, ?_⟩) hS5 ?_
              rotate_left
              · intro w' hS
                clear hS
                go_simp
                try with_reducible rfl
              refine AnyJ.takeD (i := 9) (d := some 75) (v := ?_) rfl (by kernel_rfl) (by kernel_rfl) (by kernel_rfl) (by kernel_rfl) (by kernel_rfl) (fun _ _ _ h => h) (Or.inl ⟨by kernel_rfl, ?_⟩) hS5 ?_
              rotate_left
              · intro w' hS
                clear hS
                go_simp
                try with_reducible rfl
              refine AnyJ.takeD (i := 10) (d := some 76) (v := ?_) rfl (by kernel_rfl) (by kernel_rfl) (by kernel_rfl) (by kernel_rfl) (by kernel_rfl) (fun _ _ _ h => h) (Or.inl ⟨by kernel_rfl, ?_⟩) hS5 ?_
              rotate_left
              · intro w' hS
                obtain ⟨sF0, sF1, sF2, sF3, sF4, sF5, sF6, sF7, sF8, sF9, sF10, sF11, sF12, sF13, sF14, sF15, sF16, sF17, sF18, sF19, sF20, sF21, sF22⟩ := hS
                go_simp
                try with_reducible rfl
              refine AnyJ.takeD (i := 11) (d := some 77) (v := ?_) rfl (by kernel_rfl) (by kernel_rfl) (by kernel_rfl) (by kernel_rfl) (by kernel_rfl) (fun _ _ _ h => h) (Or.inl ⟨by kernel_rfl, ?_⟩) hS5 ?_
              rotate_left
              · intro w' hS
                obtain ⟨sF0, sF1, sF2, sF3, sF4, sF5, sF6, sF7, sF8, sF9, sF10, sF11, sF12, sF13, sF14, sF15, sF16, sF17, sF18, sF19, sF20, sF21, sF22⟩ := hS
                go_simp
                try with_reducible rfl
              refine AnyJ.takeD (i := 12) (d := some 78) (v := ?_) rfl (by kernel_rfl) (by kernel_rfl) (by kernel_rfl) (by kernel_rfl) (by kernel_rfl) (fun _ _ _ h => h) (Or.inl ⟨by kernel_rfl, ?_⟩) hS5 ?_
              rotate_left
              · intro w' hS
                clear hS
                go_simp
                try with_reducible rfl
              refine AnyJ.one (i := 13) (by kernel_rfl) rfl (fun Kz hKz => ?_)
              go_simp
              refine (r_limit B day L ca cn cc (some ⟨bb, off, none⟩) pm pc _ (K.step (by (repeat' (first | (with_reducible exact Below.refl _ _) | (with_reducible assumption) | (with_reducible exact Bw.out (by with_reducible assumption)) | (with_reducible refine bw_alloc ?_ _) | (with_reducible refine bw_step ?_ (by with_reducible assumption)) | (with_reducible refine Below.alloc ?_ ?_ _) | (with_reducible refine Below.drew ?_) | (with_reducible refine below_drewN ?_ _) | (with_reducible refine Below.setCell ?_ ?_ _) | (with_reducible refine below_step ?_ (by with_reducible assumption) ?_) | (with_reducible exact Nat.le_refl _) | omega | (simp; omega) | (simp; done))))) HOK.out HL.out).mono ?_
              rintro e w6 ⟨rfl, hb6⟩
              have R_b_6 : Row w6 (w.heap.size) [.int .i64 B.id, .int .i64 B.kind, .int .i64 B.rooms, .int .i64 B.fr, .int .i64 B.un, .slice ca cn cc, .int .i64 B.pn, .int .i64 B.pd, .int .i64 B.fee, .slice (some ⟨bb, off, none⟩) pm pc] := by (repeat' (first | (with_reducible assumption) | (with_reducible refine Row.new' _ _ _ (by first | rfl | (simp; done) | omega)) | (with_reducible refine Row.alloc ?_ _) | (with_reducible refine Row.drew ?_) | (with_reducible refine Row.drewN ?_ _) | (with_reducible refine Row.step ?_ (by with_reducible assumption)) | (with_reducible refine Row.set2' ?_ _ _; first | exact ⟨_, _, by with_reducible assumption⟩ | exact ⟨_, _, Row.alloc (by with_reducible assumption) _⟩ | exact ⟨_, _, Row.alloc (Row.alloc (by with_reducible assumption) _) _⟩) | (with_reducible refine Row.other ?_ (by first | omega | (simp; done) | (simp; omega)) _)))
              have c_b_0_6 := R_b_6.cell 0 rfl
              have c_b_1_6 := R_b_6.cell 1 rfl
              have c_b_2_6 := R_b_6.cell 2 rfl
              have c_b_3_6 := R_b_6.cell 3 rfl
              have c_b_4_6 := R_b_6.cell 4 rfl
              have c_b_5_6 := R_b_6.cell 5 rfl
              have c_b_6_6 := R_b_6.cell 6 rfl
              have c_b_7_6 := R_b_6.cell 7 rfl
              have c_b_8_6 := R_b_6.cell 8 rfl
              have c_b_9_6 := R_b_6.cell 9 rfl
              have l_b_6 := R_b_6.lt
              have R_s_6 : Row w6 (w.heap.size + 1) [.int .i64 (s0), .int .i64 (s1)] := by (repeat' (first | (with_reducible assumption) | (with_reducible refine Row.new' _ _ _ (by first | rfl | (simp; done) | omega)) | (with_reducible refine Row.alloc ?_ _) | (with_reducible refine Row.drew ?_) | (with_reducible refine Row.drewN ?_ _) | (with_reducible refine Row.step ?_ (by with_reducible assumption)) | (with_reducible refine Row.set2' ?_ _ _; first | exact ⟨_, _, by with_reducible assumption⟩ | exact ⟨_, _, Row.alloc (by with_reducible assumption) _⟩ | exact ⟨_, _, Row.alloc (Row.alloc (by with_reducible assumption) _) _⟩) | (with_reducible refine Row.other ?_ (by first | omega | (simp; done) | (simp; omega)) _)))
              have c_s_0_6 := R_s_6.cell 0 rfl
              have c_s_1_6 := R_s_6.cell 1 rfl
              have l_s_6 := R_s_6.lt
              have R_x_6 : Row w6 (w3.heap.size) [.int .i64 B.id, .int .i64 B.kind, .int .i64 B.rooms, .int .i64 B.fr, .int .i64 B.un, .slice ca cn cc, .int .i64 B.pn, .int .i64 B.pd, .int .i64 B.fee, .slice (some ⟨g1, 0, none⟩) pm pm] := by (repeat' (first | (with_reducible assumption) | (with_reducible refine Row.new' _ _ _ (by first | rfl | (simp; done) | omega)) | (with_reducible refine Row.alloc ?_ _) | (with_reducible refine Row.drew ?_) | (with_reducible refine Row.drewN ?_ _) | (with_reducible refine Row.step ?_ (by with_reducible assumption)) | (with_reducible refine Row.set2' ?_ _ _; first | exact ⟨_, _, by with_reducible assumption⟩ | exact ⟨_, _, Row.alloc (by with_reducible assumption) _⟩ | exact ⟨_, _, Row.alloc (Row.alloc (by with_reducible assumption) _) _⟩) | (with_reducible refine Row.other ?_ (by first | omega | (simp; done) | (simp; omega)) _)))
              have c_x_0_6 := R_x_6.cell 0 rfl
              have c_x_1_6 := R_x_6.cell 1 rfl
              have c_x_2_6 := R_x_6.cell 2 rfl
              have c_x_3_6 := R_x_6.cell 3 rfl
              have c_x_4_6 := R_x_6.cell 4 rfl
              have c_x_5_6 := R_x_6.cell 5 rfl
              have c_x_6_6 := R_x_6.cell 6 rfl
              have c_x_7_6 := R_x_6.cell 7 rfl
              have c_x_8_6 := R_x_6.cell 8 rfl
              have c_x_9_6 := R_x_6.cell 9 rfl
              have z_x_0_6 := R_x_6.frozen 0
              have z_x_1_6 := R_x_6.frozen 1
              have z_x_2_6 := R_x_6.frozen 2
              have z_x_3_6 := R_x_6.frozen 3
              have z_x_4_6 := R_x_6.frozen 4
              have z_x_5_6 := R_x_6.frozen 5
              have z_x_6_6 := R_x_6.frozen 6
              have z_x_7_6 := R_x_6.frozen 7
              have z_x_8_6 := R_x_6.frozen 8
              have z_x_9_6 := R_x_6.frozen 9
              have l_x_6 := R_x_6.lt
              replace K := K.step (show Below w5.heap.size w5 w6 by (repeat' (first | (with_reducible exact Below.refl _ _) | (with_reducible assumption) | (with_reducible exact Bw.out (by with_reducible assumption)) | (with_reducible refine bw_alloc ?_ _) | (with_reducible refine bw_step ?_ (by with_reducible assumption)) | (with_reducible refine Below.alloc ?_ ?_ _) | (with_reducible refine Below.drew ?_) | (with_reducible refine below_drewN ?_ _) | (with_reducible refine Below.setCell ?_ ?_ _) | (with_reducible refine below_step ?_ (by with_reducible assumption) ?_) | (with_reducible exact Nat.le_refl _) | omega | (simp; omega) | (simp; done))))
              replace K1 := K1.step (show Below w5.heap.size w5 w6 by (repeat' (first | (with_reducible exact Below.refl _ _) | (with_reducible assumption) | (with_reducible exact Bw.out (by with_reducible assumption)) | (with_reducible refine bw_alloc ?_ _) | (with_reducible refine bw_step ?_ (by with_reducible assumption)) | (with_reducible refine Below.alloc ?_ ?_ _) | (with_reducible refine Below.drew ?_) | (with_reducible refine below_drewN ?_ _) | (with_reducible refine Below.setCell ?_ ?_ _) | (with_reducible refine below_step ?_ (by with_reducible assumption) ?_) | (with_reducible exact Nat.le_refl _) | omega | (simp; omega) | (simp; done))))
              have HB6 : Below w.heap.size w w6 := by (repeat' (first | (with_reducible exact Below.refl _ _) | (with_reducible assumption) | (with_reducible exact Bw.out (by with_reducible assumption)) | (with_reducible refine bw_alloc ?_ _) | (with_reducible refine bw_step ?_ (by with_reducible assumption)) | (with_reducible refine Below.alloc ?_ ?_ _) | (with_reducible refine Below.drew ?_) | (with_reducible refine below_drewN ?_ _) | (with_reducible refine Below.setCell ?_ ?_ _) | (with_reducible refine below_step ?_ (by with_reducible assumption) ?_) | (with_reducible exact Nat.le_refl _) | omega | (simp; omega) | (simp; done)))
              obtain ⟨sF0, sF1, sF2, sF3, sF4, sF5, sF6, sF7, sF8, sF9, sF10, sF11, sF12, sF13, sF14, sF15, sF16, sF17, sF18, sF19, sF20, sF21, sF22⟩ := hS5
              have hS6 : (fun w' : World => w'.cell? ⟨w.heap.size, 0, none⟩ = some (.int .i64 B.id) ∧ w'.cell? ⟨w.heap.size, 1, none⟩ = some (.int .i64 B.kind) ∧ w'.cell? ⟨w.heap.size, 2, none⟩ = some (.int .i64 B.rooms) ∧ w'.cell? ⟨w.heap.size, 3, none⟩ = some (.int .i64 B.fr) ∧ w'.cell? ⟨w.heap.size, 4, none⟩ = some (.int .i64 B.un) ∧ w'.cell? ⟨w.heap.size, 5, none⟩ = some (.slice ca cn cc) ∧ w'.cell? ⟨w.heap.size, 6, none⟩ = some (.int .i64 B.pn) ∧ w'.cell? ⟨w.heap.size, 7, none⟩ = some (.int .i64 B.pd) ∧ w'.cell? ⟨w.heap.size, 8, none⟩ = some (.int .i64 B.fee) ∧ w'.cell? ⟨w.heap.size, 9, none⟩ = some (.slice (some ⟨bb, off, none⟩) pm pc) ∧ w'.cell? ⟨w.heap.size + 1, 0, none⟩ = some (.int .i64 (s0)) ∧ w'.cell? ⟨w.heap.size + 1, 1, none⟩ = some (.int .i64 (s1)) ∧ w'.cell? ⟨w3.heap.size, 0, none⟩ = some (.int .i64 B.id) ∧ w'.cell? ⟨w3.heap.size, 1, none⟩ = some (.int .i64 B.kind) ∧ w'.cell? ⟨w3.heap.size, 2, none⟩ = some (.int .i64 B.rooms) ∧ w'.cell? ⟨w3.heap.size, 3, none⟩ = some (.int .i64 B.fr) ∧ w'.cell? ⟨w3.heap.size, 4, none⟩ = some (.int .i64 B.un) ∧ w'.cell? ⟨w3.heap.size, 5, none⟩ = some (.slice ca cn cc) ∧ w'.cell? ⟨w3.heap.size, 6, none⟩ = some (.int .i64 B.pn) ∧ w'.cell? ⟨w3.heap.size, 7, none⟩ = some (.int .i64 B.pd) ∧ w'.cell? ⟨w3.heap.size, 8, none⟩ = some (.int .i64 B.fee) ∧ w'.cell? ⟨w3.heap.size, 9, none⟩ = some (.slice (some ⟨g1, 0, none⟩) pm pm) ∧ w'.cell? ⟨bb, (off + k), none⟩ = some (.int .i64 z)) w6 := ⟨c_b_0_6, c_b_1_6, c_b_2_6, c_b_3_6, c_b_4_6, c_b_5_6, c_b_6_6, c_b_7_6, c_b_8_6, c_b_9_6, c_s_0_6, c_s_1_6, c_x_0_6, c_x_1_6, c_x_2_6, c_x_3_6, c_x_4_6, c_x_5_6, c_x_6_6, c_x_7_6, c_x_8_6, c_x_9_6, (by first | exact (CellAt.step sF22 (by (repeat' (first | (with_reducible exact Below.refl _ _) | (with_reducible assumption) | (with_reducible exact Bw.out (by with_reducible assumption)) | (with_reducible refine bw_alloc ?_ _) | (with_reducible refine bw_step ?_ (by with_reducible assumption)) | (with_reducible refine Below.alloc ?_ ?_ _) | (with_reducible refine Below.drew ?_) | (with_reducible refine below_drewN ?_ _) | (with_reducible refine Below.setCell ?_ ?_ _) | (with_reducible refine below_step ?_ (by with_reducible assumption) ?_) | (with_reducible exact Nat.le_refl _) | omega | (simp; omega) | (simp; done))))).out | exact SlC.step sF22 (by (repeat' (first | (with_reducible exact Below.refl _ _) | (with_reducible assumption) | (with_reducible exact Bw.out (by with_reducible assumption)) | (with_reducible refine bw_alloc ?_ _) | (with_reducible refine bw_step ?_ (by with_reducible assumption)) | (with_reducible refine Below.alloc ?_ ?_ _) | (with_reducible refine Below.drew ?_) | (with_reducible refine below_drewN ?_ _) | (with_reducible refine Below.setCell ?_ ?_ _) | (with_reducible refine below_step ?_ (by with_reducible assumption) ?_) | (with_reducible exact Nat.le_refl _) | omega | (simp; omega) | (simp; done)))))⟩
              clear sF0 sF1 sF2 sF3 sF4 sF5 sF6 sF7 sF8 sF9 sF10 sF11 sF12 sF13 sF14 sF15 sF16 sF17 sF18 sF19 sF20 sF21 sF22
              refine hKz _ _ (fun _ => hS6) ?_
              clear hKz Kz
              clear R_b_5 c_b_0_5 c_b_1_5 c_b_2_5 c_b_3_5 c_b_4_5 c_b_5_5 c_b_6_5 c_b_7_5 c_b_8_5 c_b_9_5 R_s_5 c_s_0_5 c_s_1_5 R_x_5 c_x_0_5 c_x_1_5 c_x_2_5 c_x_3_5 c_x_4_5 c_x_5_5 c_x_6_5 c_x_7_5 c_x_8_5 c_x_9_5 z_x_0_5 z_x_1_5 z_x_2_5 z_x_3_5 z_x_4_5 z_x_5_5 z_x_6_5 z_x_7_5 z_x_8_5 z_x_9_5 hb5 HB5
              refine AnyJ.takeD (i := 14) (d := some 80) (v := ?_) rfl (by kernel_rfl) (by kernel_rfl) (by kernel_rfl) (by kernel_rfl) (by kernel_rfl) (fun _ _ _ h => h) (Or.inl ⟨by kernel_rfl, ?_⟩) hS6 ?_
              rotate_left
              · intro w' hS
                clear hS
                go_simp
                try with_reducible rfl
              refine AnyJ.takeD (i := 15) (d := some 81) (v := ?_) rfl (by kernel_rfl) (by kernel_rfl) (by kernel_rfl) (by kernel_rfl) (by kernel_rfl) (fun _ _ _ h => h) (Or.inl ⟨by kernel_rfl, ?_⟩) hS6 ?_
              rotate_left
              · intro w' hS
                clear hS
                go_simp
                try with_reducible rfl
              refine AnyJ.takeD (i := 16) (d := some 12) (v := ?_) rfl (by kernel_rfl) (by kernel_rfl) (by kernel_rfl) (by kernel_rfl) (by kernel_rfl) (fun _ _ _ h => h) (Or.inl ⟨by kernel_rfl, ?_⟩) hS6 ?_
              rotate_left
              · intro w' hS
                clear hS
                go_simp
                try with_reducible rfl
              refine AnyJ.done (by kernel_rfl) ?_ _
              clear hS6
              simp only [Act.put, List.setIfInBounds_toArray, List.set_cons_zero, List.set_cons_succ]
              go_wp2_with fail
              go_roundw
              case rel => exact ⟨k + 1, false, by omega, by omega, congrArg (Value.int .i64) (by omega), (by first | rfl | exact congrArg Value.bool (by simp; omega)), HSV, (by show Below _ _ _; exact hbk5.drew.trans (hb6.mono hbk5.size))⟩
              case measure => simp [intOf]; omega
        · obtain rfl : k = c := by omega
          obtain rfl : ub = false := hT.out.symm.trans HF.out
          have hnlt : ¬ (B.fr + (k : Int) < s1) := by rw [HS1.out]; omega
          have hpe2 : ((pm : Int) == (pm : Int)) = true := by simp
          clear hlt
          go_wp2_with fail
          go_loopw [9, 110] (fun up i wr => ∃ m : Nat, m ≤ pm ∧ i = .int .i64 m ∧ up = .bool true ∧ w5 = wr) (fun _ i _ => pm - (intOf i).toNat)
          case atStart => exact ⟨0, Nat.zero_le _, rfl, rfl, rfl⟩
          case round =>
            obtain ⟨m, hm, rfl, rfl, hw⟩ := hrel
            subst hw
            by_cases hml : m < pm
            · obtain ⟨z, hz⟩ : ∃ z, B.picked.getD m 0 = z := ⟨_, rfl⟩
              have Z : CellAt w5 bb (off + m) (.int .i64 z) := by rw [← hz]; exact K.picked.cellOf hml
              have hkl : m < B.picked.length := by rw [HLP.out]; exact hml
              have hzb : 0 ≤ z ∧ z ≤ 400 := by
                have := HOK.out.picks z (by rw [← hz]; exact getD_mem 0 hkl)
                have := HOK.out.rooms
                omega
              obtain ⟨hz0, hz1⟩ := hzb
              have Y : CellAt w5 g1 (0 + m) (.int .i64 (z + if a ≤ m ∧ m < k then 1 else 0)) := by
                rw [← hz, ← incR_getD hkl]
                have := K1.picked.cellOf hml
                rw [show (pickB B s0 s1).picked = incR a k B.picked by show incR (ixA B s0) (ixA B s1) _ = _; rw [HXA.out, HXC.out]] at this
                exact this
              rw [Nat.zero_add] at Y
              have Zc := Z.out
              have i1 : (0 : Int) ≤ (m : Int) := by omega
              have i2 : (m : Int) < (pm : Int) := by omega
              clear hz hkl Z
              rcases (show m < a ∨ (a ≤ m ∧ m < k) ∨ k ≤ m by omega) with hma | ⟨hma, hmk⟩ | hma
              · rw [if_neg (by omega), Int.add_zero] at Y
                have Yc := Y.out
                have q1 : B.fr + (m : Int) < s0 := by have := HS0.out; omega
                go_wp2_with fail
                go_roundw
                case rel => exact ⟨m + 1, by omega, by go_num, (by first | rfl | trivial), (by first | rfl | trivial)⟩
                case measure => simp [intOf]; omega
              · rw [if_pos ⟨hma, hmk⟩] at Y
                have Yc := Y.out
                have q1 : s0 ≤ B.fr + (m : Int) := by have := HS0.out; omega
                have q2 : B.fr + (m : Int) < s1 := by have := HS1.out; omega
                go_wp2_with fail
                go_roundw
                case rel => exact ⟨m + 1, by omega, by go_num, (by first | rfl | trivial), (by first | rfl | trivial)⟩
                case measure => simp [intOf]; omega
              · rw [if_neg (by omega), Int.add_zero] at Y
                have Yc := Y.out
                have q1 : s0 ≤ B.fr + (m : Int) := by have := HS0.out; omega
                have q2 : s1 ≤ B.fr + (m : Int) := by have := HS1.out; omega
                go_wp2_with fail
                go_roundw
                case rel => exact ⟨m + 1, by omega, by go_num, (by first | rfl | trivial), (by first | rfl | trivial)⟩
                case measure => simp [intOf]; omega
            · obtain rfl : pm = m := by omega
              clear hml
              go_wp2_with fail
              refine (l_night B q j _ _ _ _ _ _ _ o1 o2 o3 hq hj).mono ?_
              rintro e w6 ⟨rfl, hb6⟩
              have R_b_6 : Row w6 (w.heap.size) [.int .i64 B.id, .int .i64 B.kind, .int .i64 B.rooms, .int .i64 B.fr, .int .i64 B.un, .slice ca cn cc, .int .i64 B.pn, .int .i64 B.pd, .int .i64 B.fee, .slice (some ⟨bb, off, none⟩) pm pc] := by (repeat' (first | (with_reducible assumption) | (with_reducible refine Row.new' _ _ _ (by first | rfl | (simp; done) | omega)) | (with_reducible refine Row.alloc ?_ _) | (with_reducible refine Row.drew ?_) | (with_reducible refine Row.drewN ?_ _) | (with_reducible refine Row.step ?_ (by with_reducible assumption)) | (with_reducible refine Row.set2' ?_ _ _; first | exact ⟨_, _, by with_reducible assumption⟩ | exact ⟨_, _, Row.alloc (by with_reducible assumption) _⟩ | exact ⟨_, _, Row.alloc (Row.alloc (by with_reducible assumption) _) _⟩) | (with_reducible refine Row.other ?_ (by first | omega | (simp; done) | (simp; omega)) _)))
              have c_b_0_6 := R_b_6.cell 0 rfl
              have c_b_1_6 := R_b_6.cell 1 rfl
              have c_b_2_6 := R_b_6.cell 2 rfl
              have c_b_3_6 := R_b_6.cell 3 rfl
              have c_b_4_6 := R_b_6.cell 4 rfl
              have c_b_5_6 := R_b_6.cell 5 rfl
              have c_b_6_6 := R_b_6.cell 6 rfl
              have c_b_7_6 := R_b_6.cell 7 rfl
              have c_b_8_6 := R_b_6.cell 8 rfl
              have c_b_9_6 := R_b_6.cell 9 rfl
              have l_b_6 := R_b_6.lt
              have R_s_6 : Row w6 (w.heap.size + 1) [.int .i64 (s0), .int .i64 (s1)] := by (repeat' (first | (with_reducible assumption) | (with_reducible refine Row.new' _ _ _ (by first | rfl | (simp; done) | omega)) | (with_reducible refine Row.alloc ?_ _) | (with_reducible refine Row.drew ?_) | (with_reducible refine Row.drewN ?_ _) | (with_reducible refine Row.step ?_ (by with_reducible assumption)) | (with_reducible refine Row.set2' ?_ _ _; first | exact ⟨_, _, by with_reducible assumption⟩ | exact ⟨_, _, Row.alloc (by with_reducible assumption) _⟩ | exact ⟨_, _, Row.alloc (Row.alloc (by with_reducible assumption) _) _⟩) | (with_reducible refine Row.other ?_ (by first | omega | (simp; done) | (simp; omega)) _)))
              have c_s_0_6 := R_s_6.cell 0 rfl
              have c_s_1_6 := R_s_6.cell 1 rfl
              have l_s_6 := R_s_6.lt
              have R_x_6 : Row w6 (w3.heap.size) [.int .i64 B.id, .int .i64 B.kind, .int .i64 B.rooms, .int .i64 B.fr, .int .i64 B.un, .slice ca cn cc, .int .i64 B.pn, .int .i64 B.pd, .int .i64 B.fee, .slice (some ⟨g1, 0, none⟩) pm pm] := by (repeat' (first | (with_reducible assumption) | (with_reducible refine Row.new' _ _ _ (by first | rfl | (simp; done) | omega)) | (with_reducible refine Row.alloc ?_ _) | (with_reducible refine Row.drew ?_) | (with_reducible refine Row.drewN ?_ _) | (with_reducible refine Row.step ?_ (by with_reducible assumption)) | (with_reducible refine Row.set2' ?_ _ _; first | exact ⟨_, _, by with_reducible assumption⟩ | exact ⟨_, _, Row.alloc (by with_reducible assumption) _⟩ | exact ⟨_, _, Row.alloc (Row.alloc (by with_reducible assumption) _) _⟩) | (with_reducible refine Row.other ?_ (by first | omega | (simp; done) | (simp; omega)) _)))
              have c_x_0_6 := R_x_6.cell 0 rfl
              have c_x_1_6 := R_x_6.cell 1 rfl
              have c_x_2_6 := R_x_6.cell 2 rfl
              have c_x_3_6 := R_x_6.cell 3 rfl
              have c_x_4_6 := R_x_6.cell 4 rfl
              have c_x_5_6 := R_x_6.cell 5 rfl
              have c_x_6_6 := R_x_6.cell 6 rfl
              have c_x_7_6 := R_x_6.cell 7 rfl
              have c_x_8_6 := R_x_6.cell 8 rfl
              have c_x_9_6 := R_x_6.cell 9 rfl
              have z_x_0_6 := R_x_6.frozen 0
              have z_x_1_6 := R_x_6.frozen 1
              have z_x_2_6 := R_x_6.frozen 2
              have z_x_3_6 := R_x_6.frozen 3
              have z_x_4_6 := R_x_6.frozen 4
              have z_x_5_6 := R_x_6.frozen 5
              have z_x_6_6 := R_x_6.frozen 6
              have z_x_7_6 := R_x_6.frozen 7
              have z_x_8_6 := R_x_6.frozen 8
              have z_x_9_6 := R_x_6.frozen 9
              have l_x_6 := R_x_6.lt
              replace K := K.step (show Below w5.heap.size w5 w6 by (repeat' (first | (with_reducible exact Below.refl _ _) | (with_reducible assumption) | (with_reducible exact Bw.out (by with_reducible assumption)) | (with_reducible refine bw_alloc ?_ _) | (with_reducible refine bw_step ?_ (by with_reducible assumption)) | (with_reducible refine Below.alloc ?_ ?_ _) | (with_reducible refine Below.drew ?_) | (with_reducible refine below_drewN ?_ _) | (with_reducible refine Below.setCell ?_ ?_ _) | (with_reducible refine below_step ?_ (by with_reducible assumption) ?_) | (with_reducible exact Nat.le_refl _) | omega | (simp; omega) | (simp; done))))
              replace K1 := K1.step (show Below w5.heap.size w5 w6 by (repeat' (first | (with_reducible exact Below.refl _ _) | (with_reducible assumption) | (with_reducible exact Bw.out (by with_reducible assumption)) | (with_reducible refine bw_alloc ?_ _) | (with_reducible refine bw_step ?_ (by with_reducible assumption)) | (with_reducible refine Below.alloc ?_ ?_ _) | (with_reducible refine Below.drew ?_) | (with_reducible refine below_drewN ?_ _) | (with_reducible refine Below.setCell ?_ ?_ _) | (with_reducible refine below_step ?_ (by with_reducible assumption) ?_) | (with_reducible exact Nat.le_refl _) | omega | (simp; omega) | (simp; done))))
              have HB6 : Below w.heap.size w w6 := by (repeat' (first | (with_reducible exact Below.refl _ _) | (with_reducible assumption) | (with_reducible exact Bw.out (by with_reducible assumption)) | (with_reducible refine bw_alloc ?_ _) | (with_reducible refine bw_step ?_ (by with_reducible assumption)) | (with_reducible refine Below.alloc ?_ ?_ _) | (with_reducible refine Below.drew ?_) | (with_reducible refine below_drewN ?_ _) | (with_reducible refine Below.setCell ?_ ?_ _) | (with_reducible refine below_step ?_ (by with_reducible assumption) ?_) | (with_reducible exact Nat.le_refl _) | omega | (simp; omega) | (simp; done)))
              clear R_b_5 c_b_0_5 c_b_1_5 c_b_2_5 c_b_3_5 c_b_4_5 c_b_5_5 c_b_6_5 c_b_7_5 c_b_8_5 c_b_9_5 R_s_5 c_s_0_5 c_s_1_5 R_x_5 c_x_0_5 c_x_1_5 c_x_2_5 c_x_3_5 c_x_4_5 c_x_5_5 c_x_6_5 c_x_7_5 c_x_8_5 c_x_9_5 z_x_0_5 z_x_1_5 z_x_2_5 z_x_3_5 z_x_4_5 z_x_5_5 z_x_6_5 z_x_7_5 z_x_8_5 z_x_9_5 hb5 HB5
              go_wp2_with fail
              refine (g_Held_any B day (B.fr + j) _ _ _ _ _ _ _ (K.step (by (repeat' (first | (with_reducible exact Below.refl _ _) | (with_reducible assumption) | (with_reducible exact Bw.out (by with_reducible assumption)) | (with_reducible refine bw_alloc ?_ _) | (with_reducible refine bw_step ?_ (by with_reducible assumption)) | (with_reducible refine Below.alloc ?_ ?_ _) | (with_reducible refine Below.drew ?_) | (with_reducible refine below_drewN ?_ _) | (with_reducible refine Below.setCell ?_ ?_ _) | (with_reducible refine below_step ?_ (by with_reducible assumption) ?_) | (with_reducible exact Nat.le_refl _) | omega | (simp; omega) | (simp; done))))) X 0 HVX.out HEX.out).mono ?_
              rintro e w7 ⟨rfl, hb7⟩
              have R_b_7 : Row w7 (w.heap.size) [.int .i64 B.id, .int .i64 B.kind, .int .i64 B.rooms, .int .i64 B.fr, .int .i64 B.un, .slice ca cn cc, .int .i64 B.pn, .int .i64 B.pd, .int .i64 B.fee, .slice (some ⟨bb, off, none⟩) pm pc] := by (repeat' (first | (with_reducible assumption) | (with_reducible refine Row.new' _ _ _ (by first | rfl | (simp; done) | omega)) | (with_reducible refine Row.alloc ?_ _) | (with_reducible refine Row.drew ?_) | (with_reducible refine Row.drewN ?_ _) | (with_reducible refine Row.step ?_ (by with_reducible assumption)) | (with_reducible refine Row.set2' ?_ _ _; first | exact ⟨_, _, by with_reducible assumption⟩ | exact ⟨_, _, Row.alloc (by with_reducible assumption) _⟩ | exact ⟨_, _, Row.alloc (Row.alloc (by with_reducible assumption) _) _⟩) | (with_reducible refine Row.other ?_ (by first | omega | (simp; done) | (simp; omega)) _)))
              have c_b_0_7 := R_b_7.cell 0 rfl
              have c_b_1_7 := R_b_7.cell 1 rfl
              have c_b_2_7 := R_b_7.cell 2 rfl
              have c_b_3_7 := R_b_7.cell 3 rfl
              have c_b_4_7 := R_b_7.cell 4 rfl
              have c_b_5_7 := R_b_7.cell 5 rfl
              have c_b_6_7 := R_b_7.cell 6 rfl
              have c_b_7_7 := R_b_7.cell 7 rfl
              have c_b_8_7 := R_b_7.cell 8 rfl
              have c_b_9_7 := R_b_7.cell 9 rfl
              have l_b_7 := R_b_7.lt
              have R_s_7 : Row w7 (w.heap.size + 1) [.int .i64 (s0), .int .i64 (s1)] := by (repeat' (first | (with_reducible assumption) | (with_reducible refine Row.new' _ _ _ (by first | rfl | (simp; done) | omega)) | (with_reducible refine Row.alloc ?_ _) | (with_reducible refine Row.drew ?_) | (with_reducible refine Row.drewN ?_ _) | (with_reducible refine Row.step ?_ (by with_reducible assumption)) | (with_reducible refine Row.set2' ?_ _ _; first | exact ⟨_, _, by with_reducible assumption⟩ | exact ⟨_, _, Row.alloc (by with_reducible assumption) _⟩ | exact ⟨_, _, Row.alloc (Row.alloc (by with_reducible assumption) _) _⟩) | (with_reducible refine Row.other ?_ (by first | omega | (simp; done) | (simp; omega)) _)))
              have c_s_0_7 := R_s_7.cell 0 rfl
              have c_s_1_7 := R_s_7.cell 1 rfl
              have l_s_7 := R_s_7.lt
              have R_x_7 : Row w7 (w3.heap.size) [.int .i64 B.id, .int .i64 B.kind, .int .i64 B.rooms, .int .i64 B.fr, .int .i64 B.un, .slice ca cn cc, .int .i64 B.pn, .int .i64 B.pd, .int .i64 B.fee, .slice (some ⟨g1, 0, none⟩) pm pm] := by (repeat' (first | (with_reducible assumption) | (with_reducible refine Row.new' _ _ _ (by first | rfl | (simp; done) | omega)) | (with_reducible refine Row.alloc ?_ _) | (with_reducible refine Row.drew ?_) | (with_reducible refine Row.drewN ?_ _) | (with_reducible refine Row.step ?_ (by with_reducible assumption)) | (with_reducible refine Row.set2' ?_ _ _; first | exact ⟨_, _, by with_reducible assumption⟩ | exact ⟨_, _, Row.alloc (by with_reducible assumption) _⟩ | exact ⟨_, _, Row.alloc (Row.alloc (by with_reducible assumption) _) _⟩) | (with_reducible refine Row.other ?_ (by first | omega | (simp; done) | (simp; omega)) _)))
              have c_x_0_7 := R_x_7.cell 0 rfl
              have c_x_1_7 := R_x_7.cell 1 rfl
              have c_x_2_7 := R_x_7.cell 2 rfl
              have c_x_3_7 := R_x_7.cell 3 rfl
              have c_x_4_7 := R_x_7.cell 4 rfl
              have c_x_5_7 := R_x_7.cell 5 rfl
              have c_x_6_7 := R_x_7.cell 6 rfl
              have c_x_7_7 := R_x_7.cell 7 rfl
              have c_x_8_7 := R_x_7.cell 8 rfl
              have c_x_9_7 := R_x_7.cell 9 rfl
              have z_x_0_7 := R_x_7.frozen 0
              have z_x_1_7 := R_x_7.frozen 1
              have z_x_2_7 := R_x_7.frozen 2
              have z_x_3_7 := R_x_7.frozen 3
              have z_x_4_7 := R_x_7.frozen 4
              have z_x_5_7 := R_x_7.frozen 5
              have z_x_6_7 := R_x_7.frozen 6
              have z_x_7_7 := R_x_7.frozen 7
              have z_x_8_7 := R_x_7.frozen 8
              have z_x_9_7 := R_x_7.frozen 9
              have l_x_7 := R_x_7.lt
              replace K := K.step (show Below w6.heap.size w6 w7 by (repeat' (first | (with_reducible exact Below.refl _ _) | (with_reducible assumption) | (with_reducible exact Bw.out (by with_reducible assumption)) | (with_reducible refine bw_alloc ?_ _) | (with_reducible refine bw_step ?_ (by with_reducible assumption)) | (with_reducible refine Below.alloc ?_ ?_ _) | (with_reducible refine Below.drew ?_) | (with_reducible refine below_drewN ?_ _) | (with_reducible refine Below.setCell ?_ ?_ _) | (with_reducible refine below_step ?_ (by with_reducible assumption) ?_) | (with_reducible exact Nat.le_refl _) | omega | (simp; omega) | (simp; done))))
              replace K1 := K1.step (show Below w6.heap.size w6 w7 by (repeat' (first | (with_reducible exact Below.refl _ _) | (with_reducible assumption) | (with_reducible exact Bw.out (by with_reducible assumption)) | (with_reducible refine bw_alloc ?_ _) | (with_reducible refine bw_step ?_ (by with_reducible assumption)) | (with_reducible refine Below.alloc ?_ ?_ _) | (with_reducible refine Below.drew ?_) | (with_reducible refine below_drewN ?_ _) | (with_reducible refine Below.setCell ?_ ?_ _) | (with_reducible refine below_step ?_ (by with_reducible assumption) ?_) | (with_reducible exact Nat.le_refl _) | omega | (simp; omega) | (simp; done))))
              have HB7 : Below w.heap.size w w7 := by (repeat' (first | (with_reducible exact Below.refl _ _) | (with_reducible assumption) | (with_reducible exact Bw.out (by with_reducible assumption)) | (with_reducible refine bw_alloc ?_ _) | (with_reducible refine bw_step ?_ (by with_reducible assumption)) | (with_reducible refine Below.alloc ?_ ?_ _) | (with_reducible refine Below.drew ?_) | (with_reducible refine below_drewN ?_ _) | (with_reducible refine Below.setCell ?_ ?_ _) | (with_reducible refine below_step ?_ (by with_reducible assumption) ?_) | (with_reducible exact Nat.le_refl _) | omega | (simp; omega) | (simp; done)))
              clear R_b_6 c_b_0_6 c_b_1_6 c_b_2_6 c_b_3_6 c_b_4_6 c_b_5_6 c_b_6_6 c_b_7_6 c_b_8_6 c_b_9_6 R_s_6 c_s_0_6 c_s_1_6 R_x_6 c_x_0_6 c_x_1_6 c_x_2_6 c_x_3_6 c_x_4_6 c_x_5_6 c_x_6_6 c_x_7_6 c_x_8_6 c_x_9_6 z_x_0_6 z_x_1_6 z_x_2_6 z_x_3_6 z_x_4_6 z_x_5_6 z_x_6_6 z_x_7_6 z_x_8_6 z_x_9_6 hb6 HB6
              go_wp2_with fail
              refine (g_Held_two B s0 s1 day (B.fr + j) _ _ _ _ _ _ _ (K1.step (by (repeat' (first | (with_reducible exact Below.refl _ _) | (with_reducible assumption) | (with_reducible exact Bw.out (by with_reducible assumption)) | (with_reducible refine bw_alloc ?_ _) | (with_reducible refine bw_step ?_ (by with_reducible assumption)) | (with_reducible refine Below.alloc ?_ ?_ _) | (with_reducible refine Below.drew ?_) | (with_reducible refine below_drewN ?_ _) | (with_reducible refine Below.setCell ?_ ?_ _) | (with_reducible refine below_step ?_ (by with_reducible assumption) ?_) | (with_reducible exact Nat.le_refl _) | omega | (simp; omega) | (simp; done))))) X 0 HVY.out HEY.out).mono ?_
              rintro e w8 ⟨rfl, hb8⟩
              have R_b_8 : Row w8 (w.heap.size) [.int .i64 B.id, .int .i64 B.kind, .int .i64 B.rooms, .int .i64 B.fr, .int .i64 B.un, .slice ca cn cc, .int .i64 B.pn, .int .i64 B.pd, .int .i64 B.fee, .slice (some ⟨bb, off, none⟩) pm pc] := by (repeat' (first | (with_reducible assumption) | (with_reducible refine Row.new' _ _ _ (by first | rfl | (simp; done) | omega)) | (with_reducible refine Row.alloc ?_ _) | (with_reducible refine Row.drew ?_) | (with_reducible refine Row.drewN ?_ _) | (with_reducible refine Row.step ?_ (by with_reducible assumption)) | (with_reducible refine Row.set2' ?_ _ _; first | exact ⟨_, _, by with_reducible assumption⟩ | exact ⟨_, _, Row.alloc (by with_reducible assumption) _⟩ | exact ⟨_, _, Row.alloc (Row.alloc (by with_reducible assumption) _) _⟩) | (with_reducible refine Row.other ?_ (by first | omega | (simp; done) | (simp; omega)) _)))
              have c_b_0_8 := R_b_8.cell 0 rfl
              have c_b_1_8 := R_b_8.cell 1 rfl
              have c_b_2_8 := R_b_8.cell 2 rfl
              have c_b_3_8 := R_b_8.cell 3 rfl
              have c_b_4_8 := R_b_8.cell 4 rfl
              have c_b_5_8 := R_b_8.cell 5 rfl
              have c_b_6_8 := R_b_8.cell 6 rfl
              have c_b_7_8 := R_b_8.cell 7 rfl
              have c_b_8_8 := R_b_8.cell 8 rfl
              have c_b_9_8 := R_b_8.cell 9 rfl
              have l_b_8 := R_b_8.lt
              have R_s_8 : Row w8 (w.heap.size + 1) [.int .i64 (s0), .int .i64 (s1)] := by (repeat' (first | (with_reducible assumption) | (with_reducible refine Row.new' _ _ _ (by first | rfl | (simp; done) | omega)) | (with_reducible refine Row.alloc ?_ _) | (with_reducible refine Row.drew ?_) | (with_reducible refine Row.drewN ?_ _) | (with_reducible refine Row.step ?_ (by with_reducible assumption)) | (with_reducible refine Row.set2' ?_ _ _; first | exact ⟨_, _, by with_reducible assumption⟩ | exact ⟨_, _, Row.alloc (by with_reducible assumption) _⟩ | exact ⟨_, _, Row.alloc (Row.alloc (by with_reducible assumption) _) _⟩) | (with_reducible refine Row.other ?_ (by first | omega | (simp; done) | (simp; omega)) _)))
              have c_s_0_8 := R_s_8.cell 0 rfl
              have c_s_1_8 := R_s_8.cell 1 rfl
              have l_s_8 := R_s_8.lt
              have R_x_8 : Row w8 (w3.heap.size) [.int .i64 B.id, .int .i64 B.kind, .int .i64 B.rooms, .int .i64 B.fr, .int .i64 B.un, .slice ca cn cc, .int .i64 B.pn, .int .i64 B.pd, .int .i64 B.fee, .slice (some ⟨g1, 0, none⟩) pm pm] := by (repeat' (first | (with_reducible assumption) | (with_reducible refine Row.new' _ _ _ (by first | rfl | (simp; done) | omega)) | (with_reducible refine Row.alloc ?_ _) | (with_reducible refine Row.drew ?_) | (with_reducible refine Row.drewN ?_ _) | (with_reducible refine Row.step ?_ (by with_reducible assumption)) | (with_reducible refine Row.set2' ?_ _ _; first | exact ⟨_, _, by with_reducible assumption⟩ | exact ⟨_, _, Row.alloc (by with_reducible assumption) _⟩ | exact ⟨_, _, Row.alloc (Row.alloc (by with_reducible assumption) _) _⟩) | (with_reducible refine Row.other ?_ (by first | omega | (simp; done) | (simp; omega)) _)))
              have c_x_0_8 := R_x_8.cell 0 rfl
              have c_x_1_8 := R_x_8.cell 1 rfl
              have c_x_2_8 := R_x_8.cell 2 rfl
              have c_x_3_8 := R_x_8.cell 3 rfl
              have c_x_4_8 := R_x_8.cell 4 rfl
              have c_x_5_8 := R_x_8.cell 5 rfl
              have c_x_6_8 := R_x_8.cell 6 rfl
              have c_x_7_8 := R_x_8.cell 7 rfl
              have c_x_8_8 := R_x_8.cell 8 rfl
              have c_x_9_8 := R_x_8.cell 9 rfl
              have z_x_0_8 := R_x_8.frozen 0
              have z_x_1_8 := R_x_8.frozen 1
              have z_x_2_8 := R_x_8.frozen 2
              have z_x_3_8 := R_x_8.frozen 3
              have z_x_4_8 := R_x_8.frozen 4
              have z_x_5_8 := R_x_8.frozen 5
              have z_x_6_8 := R_x_8.frozen 6
              have z_x_7_8 := R_x_8.frozen 7
              have z_x_8_8 := R_x_8.frozen 8
              have z_x_9_8 := R_x_8.frozen 9
              have l_x_8 := R_x_8.lt
              replace K := K.step (show Below w7.heap.size w7 w8 by (repeat' (first | (with_reducible exact Below.refl _ _) | (with_reducible assumption) | (with_reducible exact Bw.out (by with_reducible assumption)) | (with_reducible refine bw_alloc ?_ _) | (with_reducible refine bw_step ?_ (by with_reducible assumption)) | (with_reducible refine Below.alloc ?_ ?_ _) | (with_reducible refine Below.drew ?_) | (with_reducible refine below_drewN ?_ _) | (with_reducible refine Below.setCell ?_ ?_ _) | (with_reducible refine below_step ?_ (by with_reducible assumption) ?_) | (with_reducible exact Nat.le_refl _) | omega | (simp; omega) | (simp; done))))
              replace K1 := K1.step (show Below w7.heap.size w7 w8 by (repeat' (first | (with_reducible exact Below.refl _ _) | (with_reducible assumption) | (with_reducible exact Bw.out (by with_reducible assumption)) | (with_reducible refine bw_alloc ?_ _) | (with_reducible refine bw_step ?_ (by with_reducible assumption)) | (with_reducible refine Below.alloc ?_ ?_ _) | (with_reducible refine Below.drew ?_) | (with_reducible refine below_drewN ?_ _) | (with_reducible refine Below.setCell ?_ ?_ _) | (with_reducible refine below_step ?_ (by with_reducible assumption) ?_) | (with_reducible exact Nat.le_refl _) | omega | (simp; omega) | (simp; done))))
              have HB8 : Below w.heap.size w w8 := by (repeat' (first | (with_reducible exact Below.refl _ _) | (with_reducible assumption) | (with_reducible exact Bw.out (by with_reducible assumption)) | (with_reducible refine bw_alloc ?_ _) | (with_reducible refine bw_step ?_ (by with_reducible assumption)) | (with_reducible refine Below.alloc ?_ ?_ _) | (with_reducible refine Below.drew ?_) | (with_reducible refine below_drewN ?_ _) | (with_reducible refine Below.setCell ?_ ?_ _) | (with_reducible refine below_step ?_ (by with_reducible assumption) ?_) | (with_reducible exact Nat.le_refl _) | omega | (simp; omega) | (simp; done)))
              clear R_b_7 c_b_0_7 c_b_1_7 c_b_2_7 c_b_3_7 c_b_4_7 c_b_5_7 c_b_6_7 c_b_7_7 c_b_8_7 c_b_9_7 R_s_7 c_s_0_7 c_s_1_7 R_x_7 c_x_0_7 c_x_1_7 c_x_2_7 c_x_3_7 c_x_4_7 c_x_5_7 c_x_6_7 c_x_7_7 c_x_8_7 c_x_9_7 z_x_0_7 z_x_1_7 z_x_2_7 z_x_3_7 z_x_4_7 z_x_5_7 z_x_6_7 z_x_7_7 z_x_8_7 z_x_9_7 hb7 HB7
              go_upto_region 26 with fail
              obtain ⟨w9, hw9⟩ : ∃ w9, w8.setCell ⟨w3.heap.size, 9, none⟩ (.slice (some ⟨bb, off, none⟩) pm pc) = w9 := ⟨_, rfl⟩
              rw [hw9]
              have R_x_9 : Row w9 w3.heap.size [.int .i64 B.id, .int .i64 B.kind, .int .i64 B.rooms, .int .i64 B.fr, .int .i64 B.un, .slice ca cn cc, .int .i64 B.pn, .int .i64 B.pd, .int .i64 B.fee, .slice (some ⟨bb, off, none⟩) pm pc] := by rw [← hw9]; exact R_x_8.setAt 9 _ (by simp)
              have R_b_9 : Row w9 w.heap.size [.int .i64 B.id, .int .i64 B.kind, .int .i64 B.rooms, .int .i64 B.fr, .int .i64 B.un, .slice ca cn cc, .int .i64 B.pn, .int .i64 B.pd, .int .i64 B.fee, .slice (some ⟨bb, off, none⟩) pm pc] := by rw [← hw9]; exact R_b_8.other (by simp; omega) _
              have HB9 : Below w.heap.size w w9 := by rw [← hw9]; exact HB8.setCell (by simp; omega) _
              clear hw9 K K1 R_x_8 R_b_8 R_s_8 HB8 hb8
              have c_b_0_9 := R_b_9.cell 0 rfl
              have c_b_1_9 := R_b_9.cell 1 rfl
              have c_b_2_9 := R_b_9.cell 2 rfl
              have c_b_3_9 := R_b_9.cell 3 rfl
              have c_b_4_9 := R_b_9.cell 4 rfl
              have c_b_5_9 := R_b_9.cell 5 rfl
              have c_b_6_9 := R_b_9.cell 6 rfl
              have c_b_7_9 := R_b_9.cell 7 rfl
              have c_b_8_9 := R_b_9.cell 8 rfl
              have c_b_9_9 := R_b_9.cell 9 rfl
              have c_x_0_9 := R_x_9.cell 0 rfl
              have c_x_1_9 := R_x_9.cell 1 rfl
              have c_x_2_9 := R_x_9.cell 2 rfl
              have c_x_3_9 := R_x_9.cell 3 rfl
              have c_x_4_9 := R_x_9.cell 4 rfl
              have c_x_5_9 := R_x_9.cell 5 rfl
              have c_x_6_9 := R_x_9.cell 6 rfl
              have c_x_7_9 := R_x_9.cell 7 rfl
              have c_x_8_9 := R_x_9.cell 8 rfl
              have c_x_9_9 := R_x_9.cell 9 rfl
              have l_b_9 := R_b_9.lt
              have l_x_9 := R_x_9.lt
              go_wp2_with fail
              refine (r_Same B ca cn cc (some ⟨bb, off, none⟩) pm pc ca cc (some ⟨bb, off, none⟩) pc _ (K0.out.below (by (repeat' (first | (with_reducible exact Below.refl _ _) | (with_reducible assumption) | (with_reducible exact Bw.out (by with_reducible assumption)) | (with_reducible refine bw_alloc ?_ _) | (with_reducible refine bw_step ?_ (by with_reducible assumption)) | (with_reducible refine Below.alloc ?_ ?_ _) | (with_reducible refine Below.drew ?_) | (with_reducible refine below_drewN ?_ _) | (with_reducible refine Below.setCell ?_ ?_ _) | (with_reducible refine below_step ?_ (by with_reducible assumption) ?_) | (with_reducible exact Nat.le_refl _) | omega | (simp; omega) | (simp; done))))) (K0.out.below (by (repeat' (first | (with_reducible exact Below.refl _ _) | (with_reducible assumption) | (with_reducible exact Bw.out (by with_reducible assumption)) | (with_reducible refine bw_alloc ?_ _) | (with_reducible refine bw_step ?_ (by with_reducible assumption)) | (with_reducible refine Below.alloc ?_ ?_ _) | (with_reducible refine Below.drew ?_) | (with_reducible refine below_drewN ?_ _) | (with_reducible refine Below.setCell ?_ ?_ _) | (with_reducible refine below_step ?_ (by with_reducible assumption) ?_) | (with_reducible exact Nat.le_refl _) | omega | (simp; omega) | (simp; done)))))).mono ?_
              rintro e w10 ⟨rfl, hb10⟩
              have HB10 : Below w.heap.size w w10 := by (repeat' (first | (with_reducible exact Below.refl _ _) | (with_reducible assumption) | (with_reducible exact Bw.out (by with_reducible assumption)) | (with_reducible refine bw_alloc ?_ _) | (with_reducible refine bw_step ?_ (by with_reducible assumption)) | (with_reducible refine Below.alloc ?_ ?_ _) | (with_reducible refine Below.drew ?_) | (with_reducible refine below_drewN ?_ _) | (with_reducible refine Below.setCell ?_ ?_ _) | (with_reducible refine below_step ?_ (by with_reducible assumption) ?_) | (with_reducible exact Nat.le_refl _) | omega | (simp; omega) | (simp; done)))
              go_wp2_with fail
              go_ret
              refine ⟨(by first | rfl | exact ret_bool (by first | rfl | (simp; done) | (simp; omega))), ?_⟩
              (repeat' (first | (with_reducible exact Below.refl _ _) | (with_reducible assumption) | (with_reducible exact Bw.out (by with_reducible assumption)) | (with_reducible refine bw_alloc ?_ _) | (with_reducible refine bw_step ?_ (by with_reducible assumption)) | (with_reducible refine Below.alloc ?_ ?_ _) | (with_reducible refine Below.drew ?_) | (with_reducible refine below_drewN ?_ _) | (with_reducible refine Below.setCell ?_ ?_ _) | (with_reducible refine below_step ?_ (by with_reducible assumption) ?_) | (with_reducible exact Nat.le_refl _) | omega | (simp; omega) | (simp; done)))


set_option maxRecDepth 100000 in
theorem groupPicks_lifted (os : Os) (started : os.Started) (H : Type) (enc : TypeId × Value → H) :
    ReturnsInHanded {} Try.checked os 6 .any (Rows.groupPicksSpec.pre6 enc Try.prog Try.f6 Rows.groupPicksRow.domain false) (Rows.groupPicksSpec.post enc Try.prog Try.f6 false true false false) := by
  refine returnsInHanded_of_change (C := Try.checked) own started (by kernel_rfl) Try.func6
    (ChangeSpec.witness6 (enc := enc) (C := Try.checked) false ⟨#[], #[.agg #[.int .i64 0, .int .i64 0, .int .i64 0, .int .i64 0, .int .i64 0, .slice none 0 0, .int .i64 0, .int .i64 0, .int .i64 0, .slice none 0 0], .int .i64 0, .agg #[.int .i64 0, .int .i64 0], .int .u16 0], []⟩ 8 (by kernel_rfl) (by kernel_rfl) (by kernel_rfl) (by kernel_rfl)) ?_
  intro W base args ds gs before hval0 hW _ _
  have hval : ∀ (j : Nat) t v, Try.f6.params[j]? = some t → args[j]? = some v → Value.okWide Try.prog W .any base t v := hval0
  have hW' := hW
  obtain ⟨p, q, hA0, hV, rfl, hfz, hnd⟩ := hW
  obtain ⟨rfl, rfl⟩ := trodVars_none hV
  have hA : DataW.TrodAll enc Try.prog W 0 (fun _ => true) true Try.f6.params.toList args.toList ds p := hA0
  rw [Try.params6] at hA hval
  obtain ⟨v0, vs0, d0, ds0, p0, q0, hargs, rfl, rfl, h0, r0⟩ := trodAll_cons hA
  obtain ⟨v1, vs1, d1, ds1, p1, q1, rfl, rfl, rfl, h1, r1⟩ := trodAll_cons r0
  obtain ⟨v2, vs2, d2, ds2, p2, q2, rfl, rfl, rfl, h2, r2⟩ := trodAll_cons r1
  obtain ⟨v3, vs3, d3, ds3, p3, q3, rfl, rfl, rfl, h3, r3⟩ := trodAll_cons r2
  obtain ⟨rfl, rfl, rfl⟩ := trodAll_nil r3
  obtain rfl : args = #[v0, v1, v2, v3] := by cases args; simp_all
  obtain ⟨b, ca_b, cn_b, cc_b, pa_b, pm_b, pc_b, rfl, hs_b, wf_b⟩ := block_of (hval 0 29 v0 rfl rfl) h0
  obtain ⟨day, rfl, rfl, rfl, wday⟩ := open_int Try.underlying3 (hval 1 3 v1 rfl rfl) h1
  obtain ⟨c20, c21, y20, y21, m2, rfl, rfl, rfl, hy20, hy21⟩ := Go.Joins.open_agg2 Try.underlying23 (by kernel_rfl) (by kernel_rfl) (hval 2 23 v2 rfl rfl) h2
  obtain ⟨s0, e20, rfl, ws0⟩ := DataW.trod_int Try.underlying3 hy20
  simp only [List.cons.injEq, and_true] at e20
  subst e20
  obtain ⟨s1, e21, rfl, ws1⟩ := DataW.trod_int Try.underlying3 hy21
  simp only [List.cons.injEq, and_true] at e21
  subst e21
  obtain ⟨q, rfl, rfl, rfl, wq⟩ := open_int Try.underlying40 (hval 3 40 v3 rfl rfl) h3
  clear hA0 hval0
  refine (gpk_walk b _ _ _ _ _ _ day s0 s1 q wf_b wday ws0 ws1 wq W hs_b).mono fun e W' ⟨he, hb⟩ => ?_
  subst he
  exact ⟨_, rfl, law_post (B := 4) laidOut (by rw [Try.params6]; simp only [List.mem_cons, List.not_mem_nil, or_false, forall_eq_or_imp, forall_eq]; first | exact readable_groupPicks | (repeat' apply And.intro) <;> first | exact of_decide_eq_true (by kernel_rfl) | kernel_rfl) rfl Try.underlying4 rfl rfl hW' hb⟩

theorem groupPicks_over : Rows.groupPicksRow.holds Try.pinned (OpenSpec.ofChange Rows.groupPicksSpec) :=
  OpenClaim.holds_of_wide 6 Try.f6 rfl rfl rfl rfl rfl rfl rfl ⟨rfl, rfl, rfl, rfl, rfl⟩ rfl rfl rfl rfl rfl (by kernel_rfl) Try.func6 (by kernel_rfl)
    (of_decide_eq_true (by kernel_rfl)) (by unfold Func.isWrapper; first | (rw [if_pos (by decide +kernel)]; kernel_rfl) | (rw [if_neg (by decide +kernel)]; exact ⟨rfl, rfl⟩))
    (fun os started H enc _ => groupPicks_lifted os started H enc)

theorem groupPicks_holds : Rows.GroupPicksSaid := groupPicks_over
#print axioms groupPicks_holds
end Go.Proofs.Ytjmlkdopbiedaaa
