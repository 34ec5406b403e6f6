/-
  The walks of group.Held and of the reference's Limit and Held.
-/
import Derived.Test.YtjmlkdopbiedaaaGrpF
namespace Go.Proofs.Ytjmlkdopbiedaaa
set_option linter.unusedSimpArgs false
set_option linter.unusedVariables false
open Go.RowKit

def hasB (fr un n : Int) : Bool := decide (fr ≤ n) && decide (n < un)
theorem hasB_iff {fr un n : Int} : hasB fr un n = true ↔ fr ≤ n ∧ n < un := by simp [hasB]
theorem hasB_not {fr un n : Int} : hasB fr un n = false ↔ n < fr ∨ un ≤ n := by
  rw [← Bool.not_eq_true, hasB_iff]; omega

set_option maxRecDepth 100000 in
set_option maxHeartbeats 1600000 in
theorem g_has (B : Blk) (n : Int) (ca : Option Addr) (cn cc : Nat) (pa : Option Addr) (pm pc : Nat) (w : World) (b : Bool) (hb : hasB B.fr B.un n = b) :
    Calls Try.prog 26 #[.agg #[.int .i64 B.id, .int .i64 B.kind, .int .i64 B.rooms, .int .i64 B.fr, .int .i64 B.un, .slice ca cn cc, .int .i64 B.pn, .int .i64 B.pd, .int .i64 B.fee, .slice pa pm pc], .int .i64 n] w fun e w' => e = .returned (.bool b) ∧ Below w.heap.size w w' := by
  subst hb
  unfold hasB
  by_cases h1 : B.fr ≤ n
  · go_enter Try.func26, Try.ntmps26
    go_wp2_with fail
    go_ret
    exact ⟨ret_bool (by simp [h1]), by (repeat' (first | (with_reducible exact Below.refl _ _) | (with_reducible assumption) | (with_reducible exact Bw.out (by with_reducible assumption)) | (with_reducible refine bw_alloc ?_ _) | (with_reducible refine bw_step ?_ (by with_reducible assumption)) | (with_reducible refine Below.alloc ?_ ?_ _) | (with_reducible refine Below.drew ?_) | (with_reducible refine below_drewN ?_ _) | (with_reducible refine Below.setCell ?_ ?_ _) | (with_reducible refine below_step ?_ (by with_reducible assumption) ?_) | (with_reducible exact Nat.le_refl _) | omega | (simp; omega) | (simp; done)))⟩
  · go_enter Try.func26, Try.ntmps26
    go_wp2_with fail
    go_ret
    exact ⟨ret_bool (by first | (simp; omega) | (simp [h1]; done)), by (repeat' (first | (with_reducible exact Below.refl _ _) | (with_reducible assumption) | (with_reducible exact Bw.out (by with_reducible assumption)) | (with_reducible refine bw_alloc ?_ _) | (with_reducible refine bw_step ?_ (by with_reducible assumption)) | (with_reducible refine Below.alloc ?_ ?_ _) | (with_reducible refine Below.drew ?_) | (with_reducible refine below_drewN ?_ _) | (with_reducible refine Below.setCell ?_ ?_ _) | (with_reducible refine below_step ?_ (by with_reducible assumption) ?_) | (with_reducible exact Nat.le_refl _) | omega | (simp; omega) | (simp; done)))⟩

set_option maxRecDepth 100000 in
set_option maxHeartbeats 1600000 in
theorem g_picked (B : Blk) (n : Int) (j : Nat) (z : Int) (ca : Option Addr) (cn cc : Nat) (pa : Option Addr) (pm pc : Nat) (w : World) (hp : SlI w pa pm B.picked) (hj : j < pm) (hn : n = B.fr + j) (h0 : 0 ≤ B.fr) (h1 : B.fr ≤ 366) (h2 : pm ≤ 366) (hz : B.picked.getD j 0 = z) :
    Calls Try.prog 28 #[.agg #[.int .i64 B.id, .int .i64 B.kind, .int .i64 B.rooms, .int .i64 B.fr, .int .i64 B.un, .slice ca cn cc, .int .i64 B.pn, .int .i64 B.pd, .int .i64 B.fee, .slice pa pm pc], .int .i64 n] w fun e w' => e = .returned (.int .i64 z) ∧ Below w.heap.size w w' := by
  obtain ⟨b, off, z', rfl, hbl, cz, gz, _, _⟩ := hp.get hj
  obtain rfl : z = z' := hz.symm.trans gz.out
  have hlt : b < w.heap.size := hbl
  have j1 : (0 : Int) ≤ (j : Int) := by omega
  have j2 : (j : Int) < (pm : Int) := by omega
  have e1 : n - B.fr = (j : Int) := by omega
  have e2 : IntKind.i64.wrap (j : Int) = (j : Int) := IntWalk.i64_in _ (by omega)
  have hn1 : 0 ≤ n := by omega
  have hn2 : n ≤ 1000 := by omega
  clear hp hn hz gz
  go_enter Try.func28, Try.ntmps28
  go_wp2_with fail
  go_ret
  exact ⟨rfl, by (repeat' (first | (with_reducible exact Below.refl _ _) | (with_reducible assumption) | (with_reducible exact Bw.out (by with_reducible assumption)) | (with_reducible refine bw_alloc ?_ _) | (with_reducible refine bw_step ?_ (by with_reducible assumption)) | (with_reducible refine Below.alloc ?_ ?_ _) | (with_reducible refine Below.drew ?_) | (with_reducible refine below_drewN ?_ _) | (with_reducible refine Below.setCell ?_ ?_ _) | (with_reducible refine below_step ?_ (by with_reducible assumption) ?_) | (with_reducible exact Nat.le_refl _) | omega | (simp; omega) | (simp; done)))⟩

/-- The limit of a block on a day. -/
def limI (B : Blk) (day : Int) : Int := limR day B.rooms B.cuts
theorem limI_in {B : Blk} (h : B.Ok) (day : Int) : 0 ≤ limI B day ∧ limI B day ≤ B.rooms := limR_in day B.cuts B.rooms (cutsB_parts h.cuts) (by have := h.rooms; omega)
theorem limit_c (B : Blk) (day : Int) (L : Int) (ca : Option Addr) (cn cc : Nat) (pa : Option Addr) (pm pc : Nat) (w : World) (hin : BlkIn w B ca cn cc pa pm pc) (h : B.Ok) (hL : limI B day = L) :
    Calls Try.prog 27 #[.agg #[.int .i64 B.id, .int .i64 B.kind, .int .i64 B.rooms, .int .i64 B.fr, .int .i64 B.un, .slice ca cn cc, .int .i64 B.pn, .int .i64 B.pd, .int .i64 B.fee, .slice pa pm pc], .int .i64 day] w fun e w' => e = .returned (.int .i64 L) ∧ Below w.heap.size w w' :=
  limit_any B day ca cn cc pa pm pc w hin (by have := h.rooms; omega) h.rooms.2 (cutsB_parts h.cuts) L (by rw [limG_eq _ _ (cutsB_rising h.cuts)]; exact hL)

theorem ret2_int {k : IntKind} {a b : Int} {u v : Value} (h : a = b) (h2 : u = v) : Ending.returned (.tuple #[.int k a, u]) = .returned (.tuple #[.int k b, v]) := by rw [h, h2]
/-- What Held returns. -/
def heE (B : Blk) (day n : Int) : Int := if (blkB B && inR day 0 366) = true then (if hasB B.fr B.un n = true then 0 else 4) else 1
def heV (B : Blk) (day n : Int) : Int := if heE B day n = 0 then max (limI B day) (B.picked.getD (n - B.fr).toNat 0) else 0

set_option maxRecDepth 100000 in
set_option maxHeartbeats 6400000 in
theorem g_Held_any (B : Blk) (day n : Int) (ca : Option Addr) (cn cc : Nat) (pa : Option Addr) (pm pc : Nat) (w : World) (hin : BlkIn w B ca cn cc pa pm pc) (V E : Int) (hV : heV B day n = V) (hE : heE B day n = E) :
    Calls Try.prog 11 #[.agg #[.int .i64 B.id, .int .i64 B.kind, .int .i64 B.rooms, .int .i64 B.fr, .int .i64 B.un, .slice ca cn cc, .int .i64 B.pn, .int .i64 B.pd, .int .i64 B.fee, .slice pa pm pc], .int .i64 day, .int .i64 n] w fun e w' => e = .returned (.tuple #[.int .i64 V, .int .i64 E]) ∧ Below w.heap.size w w' := by
  have HIN := Lib.hid hin
  have HLP : Hid (B.picked.length = pm) := hin.picked.1
  have HE := Lib.hid hE
  have HVV := Lib.hid hV
  clear hin hV hE
  cases hv : blkB B with
  | false =>
    have HV := Lib.hid hv
    obtain rfl : E = 1 := by rw [← HE.out]; simp [heE, hv]
    obtain rfl : V = 0 := by rw [← HVV.out]; unfold heV; rw [HE.out]; rfl
    clear hv
    go_enter Try.func11, Try.ntmps11
    go_wp2_with fail
    refine (g_valid_any B ca cn cc pa pm pc _ (HIN.out.below (by (repeat' (first | (with_reducible exact Below.refl _ _) | (with_reducible assumption) | (with_reducible exact Bw.out (by with_reducible assumption)) | (with_reducible refine bw_alloc ?_ _) | (with_reducible refine bw_step ?_ (by with_reducible assumption)) | (with_reducible refine Below.alloc ?_ ?_ _) | (with_reducible refine Below.drew ?_) | (with_reducible refine below_drewN ?_ _) | (with_reducible refine Below.setCell ?_ ?_ _) | (with_reducible refine below_step ?_ (by with_reducible assumption) ?_) | (with_reducible exact Nat.le_refl _) | omega | (simp; omega) | (simp; done))))) false HV.out).mono ?_
    rintro e w1 ⟨rfl, hb1⟩
    have R_b_1 : Row w1 (w.heap.size) [.int .i64 B.id, .int .i64 B.kind, .int .i64 B.rooms, .int .i64 B.fr, .int .i64 B.un, .slice ca cn cc, .int .i64 B.pn, .int .i64 B.pd, .int .i64 B.fee, .slice pa pm pc] := by (repeat' (first | (with_reducible assumption) | (with_reducible refine Row.new' _ _ _ (by first | rfl | (simp; done) | omega)) | (with_reducible refine Row.alloc ?_ _) | (with_reducible refine Row.drew ?_) | (with_reducible refine Row.drewN ?_ _) | (with_reducible refine Row.step ?_ (by with_reducible assumption)) | (with_reducible refine Row.set2' ?_ _ _; first | exact ⟨_, _, by with_reducible assumption⟩ | exact ⟨_, _, Row.alloc (by with_reducible assumption) _⟩ | exact ⟨_, _, Row.alloc (Row.alloc (by with_reducible assumption) _) _⟩) | (with_reducible refine Row.other ?_ (by first | omega | (simp; done) | (simp; omega)) _)))
    have c_b_0_1 := R_b_1.cell 0 rfl
    have c_b_1_1 := R_b_1.cell 1 rfl
    have c_b_2_1 := R_b_1.cell 2 rfl
    have c_b_3_1 := R_b_1.cell 3 rfl
    have c_b_4_1 := R_b_1.cell 4 rfl
    have c_b_5_1 := R_b_1.cell 5 rfl
    have c_b_6_1 := R_b_1.cell 6 rfl
    have c_b_7_1 := R_b_1.cell 7 rfl
    have c_b_8_1 := R_b_1.cell 8 rfl
    have c_b_9_1 := R_b_1.cell 9 rfl
    have l_b_1 := R_b_1.lt
    have R_c_1 : Row w1 (w.heap.size + 1) [.int .i64 B.id, .int .i64 B.kind, .int .i64 B.rooms, .int .i64 B.fr, .int .i64 B.un, .slice ca cn cc, .int .i64 B.pn, .int .i64 B.pd, .int .i64 B.fee, .slice pa pm pc] := by (repeat' (first | (with_reducible assumption) | (with_reducible refine Row.new' _ _ _ (by first | rfl | (simp; done) | omega)) | (with_reducible refine Row.alloc ?_ _) | (with_reducible refine Row.drew ?_) | (with_reducible refine Row.drewN ?_ _) | (with_reducible refine Row.step ?_ (by with_reducible assumption)) | (with_reducible refine Row.set2' ?_ _ _; first | exact ⟨_, _, by with_reducible assumption⟩ | exact ⟨_, _, Row.alloc (by with_reducible assumption) _⟩ | exact ⟨_, _, Row.alloc (Row.alloc (by with_reducible assumption) _) _⟩) | (with_reducible refine Row.other ?_ (by first | omega | (simp; done) | (simp; omega)) _)))
    have c_c_0_1 := R_c_1.cell 0 rfl
    have c_c_1_1 := R_c_1.cell 1 rfl
    have c_c_2_1 := R_c_1.cell 2 rfl
    have c_c_3_1 := R_c_1.cell 3 rfl
    have c_c_4_1 := R_c_1.cell 4 rfl
    have c_c_5_1 := R_c_1.cell 5 rfl
    have c_c_6_1 := R_c_1.cell 6 rfl
    have c_c_7_1 := R_c_1.cell 7 rfl
    have c_c_8_1 := R_c_1.cell 8 rfl
    have c_c_9_1 := R_c_1.cell 9 rfl
    have l_c_1 := R_c_1.lt
    have HB1 : Below w.heap.size w w1 := by (repeat' (first | (with_reducible exact Below.refl _ _) | (with_reducible assumption) | (with_reducible exact Bw.out (by with_reducible assumption)) | (with_reducible refine bw_alloc ?_ _) | (with_reducible refine bw_step ?_ (by with_reducible assumption)) | (with_reducible refine Below.alloc ?_ ?_ _) | (with_reducible refine Below.drew ?_) | (with_reducible refine below_drewN ?_ _) | (with_reducible refine Below.setCell ?_ ?_ _) | (with_reducible refine below_step ?_ (by with_reducible assumption) ?_) | (with_reducible exact Nat.le_refl _) | omega | (simp; omega) | (simp; done)))
    go_wp2_with fail
    go_ret2
    refine ⟨rfl, ?_⟩
    (repeat' (first | (with_reducible exact Below.refl _ _) | (with_reducible assumption) | (with_reducible exact Bw.out (by with_reducible assumption)) | (with_reducible refine bw_alloc ?_ _) | (with_reducible refine bw_step ?_ (by with_reducible assumption)) | (with_reducible refine Below.alloc ?_ ?_ _) | (with_reducible refine Below.drew ?_) | (with_reducible refine below_drewN ?_ _) | (with_reducible refine Below.setCell ?_ ?_ _) | (with_reducible refine below_step ?_ (by with_reducible assumption) ?_) | (with_reducible exact Nat.le_refl _) | omega | (simp; omega) | (simp; done)))
  | true =>
    have HV := Lib.hid hv
    cases hd : inR day 0 366 with
    | false =>
      obtain rfl : E = 1 := by rw [← HE.out]; simp [heE, hd]
      obtain rfl : V = 0 := by rw [← HVV.out]; unfold heV; rw [HE.out]; rfl
      clear hv
      go_enter Try.func11, Try.ntmps11
      go_wp2_with fail
      refine (g_valid_any B ca cn cc pa pm pc _ (HIN.out.below (by (repeat' (first | (with_reducible exact Below.refl _ _) | (with_reducible assumption) | (with_reducible exact Bw.out (by with_reducible assumption)) | (with_reducible refine bw_alloc ?_ _) | (with_reducible refine bw_step ?_ (by with_reducible assumption)) | (with_reducible refine Below.alloc ?_ ?_ _) | (with_reducible refine Below.drew ?_) | (with_reducible refine below_drewN ?_ _) | (with_reducible refine Below.setCell ?_ ?_ _) | (with_reducible refine below_step ?_ (by with_reducible assumption) ?_) | (with_reducible exact Nat.le_refl _) | omega | (simp; omega) | (simp; done))))) true HV.out).mono ?_
      rintro e w1 ⟨rfl, hb1⟩
      have R_b_1 : Row w1 (w.heap.size) [.int .i64 B.id, .int .i64 B.kind, .int .i64 B.rooms, .int .i64 B.fr, .int .i64 B.un, .slice ca cn cc, .int .i64 B.pn, .int .i64 B.pd, .int .i64 B.fee, .slice pa pm pc] := by (repeat' (first | (with_reducible assumption) | (with_reducible refine Row.new' _ _ _ (by first | rfl | (simp; done) | omega)) | (with_reducible refine Row.alloc ?_ _) | (with_reducible refine Row.drew ?_) | (with_reducible refine Row.drewN ?_ _) | (with_reducible refine Row.step ?_ (by with_reducible assumption)) | (with_reducible refine Row.set2' ?_ _ _; first | exact ⟨_, _, by with_reducible assumption⟩ | exact ⟨_, _, Row.alloc (by with_reducible assumption) _⟩ | exact ⟨_, _, Row.alloc (Row.alloc (by with_reducible assumption) _) _⟩) | (with_reducible refine Row.other ?_ (by first | omega | (simp; done) | (simp; omega)) _)))
      have c_b_0_1 := R_b_1.cell 0 rfl
      have c_b_1_1 := R_b_1.cell 1 rfl
      have c_b_2_1 := R_b_1.cell 2 rfl
      have c_b_3_1 := R_b_1.cell 3 rfl
      have c_b_4_1 := R_b_1.cell 4 rfl
      have c_b_5_1 := R_b_1.cell 5 rfl
      have c_b_6_1 := R_b_1.cell 6 rfl
      have c_b_7_1 := R_b_1.cell 7 rfl
      have c_b_8_1 := R_b_1.cell 8 rfl
      have c_b_9_1 := R_b_1.cell 9 rfl
      have l_b_1 := R_b_1.lt
      have R_c_1 : Row w1 (w.heap.size + 1) [.int .i64 B.id, .int .i64 B.kind, .int .i64 B.rooms, .int .i64 B.fr, .int .i64 B.un, .slice ca cn cc, .int .i64 B.pn, .int .i64 B.pd, .int .i64 B.fee, .slice pa pm pc] := by (repeat' (first | (with_reducible assumption) | (with_reducible refine Row.new' _ _ _ (by first | rfl | (simp; done) | omega)) | (with_reducible refine Row.alloc ?_ _) | (with_reducible refine Row.drew ?_) | (with_reducible refine Row.drewN ?_ _) | (with_reducible refine Row.step ?_ (by with_reducible assumption)) | (with_reducible refine Row.set2' ?_ _ _; first | exact ⟨_, _, by with_reducible assumption⟩ | exact ⟨_, _, Row.alloc (by with_reducible assumption) _⟩ | exact ⟨_, _, Row.alloc (Row.alloc (by with_reducible assumption) _) _⟩) | (with_reducible refine Row.other ?_ (by first | omega | (simp; done) | (simp; omega)) _)))
      have c_c_0_1 := R_c_1.cell 0 rfl
      have c_c_1_1 := R_c_1.cell 1 rfl
      have c_c_2_1 := R_c_1.cell 2 rfl
      have c_c_3_1 := R_c_1.cell 3 rfl
      have c_c_4_1 := R_c_1.cell 4 rfl
      have c_c_5_1 := R_c_1.cell 5 rfl
      have c_c_6_1 := R_c_1.cell 6 rfl
      have c_c_7_1 := R_c_1.cell 7 rfl
      have c_c_8_1 := R_c_1.cell 8 rfl
      have c_c_9_1 := R_c_1.cell 9 rfl
      have l_c_1 := R_c_1.lt
      have HB1 : Below w.heap.size w w1 := by (repeat' (first | (with_reducible exact Below.refl _ _) | (with_reducible assumption) | (with_reducible exact Bw.out (by with_reducible assumption)) | (with_reducible refine bw_alloc ?_ _) | (with_reducible refine bw_step ?_ (by with_reducible assumption)) | (with_reducible refine Below.alloc ?_ ?_ _) | (with_reducible refine Below.drew ?_) | (with_reducible refine below_drewN ?_ _) | (with_reducible refine Below.setCell ?_ ?_ _) | (with_reducible refine below_step ?_ (by with_reducible assumption) ?_) | (with_reducible exact Nat.le_refl _) | omega | (simp; omega) | (simp; done)))
      go_wp2_with fail
      refine (g_isDay day _).mono ?_
      rintro e w' ⟨rfl, rfl⟩
      rw [hd]
      go_wp2_with fail
      go_ret2
      refine ⟨rfl, ?_⟩
      (repeat' (first | (with_reducible exact Below.refl _ _) | (with_reducible assumption) | (with_reducible exact Bw.out (by with_reducible assumption)) | (with_reducible refine bw_alloc ?_ _) | (with_reducible refine bw_step ?_ (by with_reducible assumption)) | (with_reducible refine Below.alloc ?_ ?_ _) | (with_reducible refine Below.drew ?_) | (with_reducible refine below_drewN ?_ _) | (with_reducible refine Below.setCell ?_ ?_ _) | (with_reducible refine below_step ?_ (by with_reducible assumption) ?_) | (with_reducible exact Nat.le_refl _) | omega | (simp; omega) | (simp; done)))
    | true =>
      have ok := blkB_ok hv
      cases hh : hasB B.fr B.un n with
      | false =>
        obtain rfl : E = 4 := by rw [← HE.out]; simp [heE, hv, hd, hh]
        obtain rfl : V = 0 := by rw [← HVV.out]; unfold heV; rw [HE.out]; rfl
        clear hv
        go_enter Try.func11, Try.ntmps11
        go_wp2_with fail
        refine (g_valid_any B ca cn cc pa pm pc _ (HIN.out.below (by (repeat' (first | (with_reducible exact Below.refl _ _) | (with_reducible assumption) | (with_reducible exact Bw.out (by with_reducible assumption)) | (with_reducible refine bw_alloc ?_ _) | (with_reducible refine bw_step ?_ (by with_reducible assumption)) | (with_reducible refine Below.alloc ?_ ?_ _) | (with_reducible refine Below.drew ?_) | (with_reducible refine below_drewN ?_ _) | (with_reducible refine Below.setCell ?_ ?_ _) | (with_reducible refine below_step ?_ (by with_reducible assumption) ?_) | (with_reducible exact Nat.le_refl _) | omega | (simp; omega) | (simp; done))))) true HV.out).mono ?_
        rintro e w1 ⟨rfl, hb1⟩
        have R_b_1 : Row w1 (w.heap.size) [.int .i64 B.id, .int .i64 B.kind, .int .i64 B.rooms, .int .i64 B.fr, .int .i64 B.un, .slice ca cn cc, .int .i64 B.pn, .int .i64 B.pd, .int .i64 B.fee, .slice pa pm pc] := by (repeat' (first | (with_reducible assumption) | (with_reducible refine Row.new' _ _ _ (by first | rfl | (simp; done) | omega)) | (with_reducible refine Row.alloc ?_ _) | (with_reducible refine Row.drew ?_) | (with_reducible refine Row.drewN ?_ _) | (with_reducible refine Row.step ?_ (by with_reducible assumption)) | (with_reducible refine Row.set2' ?_ _ _; first | exact ⟨_, _, by with_reducible assumption⟩ | exact ⟨_, _, Row.alloc (by with_reducible assumption) _⟩ | exact ⟨_, _, Row.alloc (Row.alloc (by with_reducible assumption) _) _⟩) | (with_reducible refine Row.other ?_ (by first | omega | (simp; done) | (simp; omega)) _)))
        have c_b_0_1 := R_b_1.cell 0 rfl
        have c_b_1_1 := R_b_1.cell 1 rfl
        have c_b_2_1 := R_b_1.cell 2 rfl
        have c_b_3_1 := R_b_1.cell 3 rfl
        have c_b_4_1 := R_b_1.cell 4 rfl
        have c_b_5_1 := R_b_1.cell 5 rfl
        have c_b_6_1 := R_b_1.cell 6 rfl
        have c_b_7_1 := R_b_1.cell 7 rfl
        have c_b_8_1 := R_b_1.cell 8 rfl
        have c_b_9_1 := R_b_1.cell 9 rfl
        have l_b_1 := R_b_1.lt
        have R_c_1 : Row w1 (w.heap.size + 1) [.int .i64 B.id, .int .i64 B.kind, .int .i64 B.rooms, .int .i64 B.fr, .int .i64 B.un, .slice ca cn cc, .int .i64 B.pn, .int .i64 B.pd, .int .i64 B.fee, .slice pa pm pc] := by (repeat' (first | (with_reducible assumption) | (with_reducible refine Row.new' _ _ _ (by first | rfl | (simp; done) | omega)) | (with_reducible refine Row.alloc ?_ _) | (with_reducible refine Row.drew ?_) | (with_reducible refine Row.drewN ?_ _) | (with_reducible refine Row.step ?_ (by with_reducible assumption)) | (with_reducible refine Row.set2' ?_ _ _; first | exact ⟨_, _, by with_reducible assumption⟩ | exact ⟨_, _, Row.alloc (by with_reducible assumption) _⟩ | exact ⟨_, _, Row.alloc (Row.alloc (by with_reducible assumption) _) _⟩) | (with_reducible refine Row.other ?_ (by first | omega | (simp; done) | (simp; omega)) _)))
        have c_c_0_1 := R_c_1.cell 0 rfl
        have c_c_1_1 := R_c_1.cell 1 rfl
        have c_c_2_1 := R_c_1.cell 2 rfl
        have c_c_3_1 := R_c_1.cell 3 rfl
        have c_c_4_1 := R_c_1.cell 4 rfl
        have c_c_5_1 := R_c_1.cell 5 rfl
        have c_c_6_1 := R_c_1.cell 6 rfl
        have c_c_7_1 := R_c_1.cell 7 rfl
        have c_c_8_1 := R_c_1.cell 8 rfl
        have c_c_9_1 := R_c_1.cell 9 rfl
        have l_c_1 := R_c_1.lt
        have HB1 : Below w.heap.size w w1 := by (repeat' (first | (with_reducible exact Below.refl _ _) | (with_reducible assumption) | (with_reducible exact Bw.out (by with_reducible assumption)) | (with_reducible refine bw_alloc ?_ _) | (with_reducible refine bw_step ?_ (by with_reducible assumption)) | (with_reducible refine Below.alloc ?_ ?_ _) | (with_reducible refine Below.drew ?_) | (with_reducible refine below_drewN ?_ _) | (with_reducible refine Below.setCell ?_ ?_ _) | (with_reducible refine below_step ?_ (by with_reducible assumption) ?_) | (with_reducible exact Nat.le_refl _) | omega | (simp; omega) | (simp; done)))
        go_wp2_with fail
        refine (g_isDay day _).mono ?_
        rintro e w' ⟨rfl, rfl⟩
        rw [hd]
        go_wp2_with fail
        refine (g_has B n ca cn cc pa pm pc _ false hh).mono ?_
        rintro e w2 ⟨rfl, hb2⟩
        have R_b_2 : Row w2 (w.heap.size) [.int .i64 B.id, .int .i64 B.kind, .int .i64 B.rooms, .int .i64 B.fr, .int .i64 B.un, .slice ca cn cc, .int .i64 B.pn, .int .i64 B.pd, .int .i64 B.fee, .slice pa pm pc] := by (repeat' (first | (with_reducible assumption) | (with_reducible refine Row.new' _ _ _ (by first | rfl | (simp; done) | omega)) | (with_reducible refine Row.alloc ?_ _) | (with_reducible refine Row.drew ?_) | (with_reducible refine Row.drewN ?_ _) | (with_reducible refine Row.step ?_ (by with_reducible assumption)) | (with_reducible refine Row.set2' ?_ _ _; first | exact ⟨_, _, by with_reducible assumption⟩ | exact ⟨_, _, Row.alloc (by with_reducible assumption) _⟩ | exact ⟨_, _, Row.alloc (Row.alloc (by with_reducible assumption) _) _⟩) | (with_reducible refine Row.other ?_ (by first | omega | (simp; done) | (simp; omega)) _)))
        have c_b_0_2 := R_b_2.cell 0 rfl
        have c_b_1_2 := R_b_2.cell 1 rfl
        have c_b_2_2 := R_b_2.cell 2 rfl
        have c_b_3_2 := R_b_2.cell 3 rfl
        have c_b_4_2 := R_b_2.cell 4 rfl
        have c_b_5_2 := R_b_2.cell 5 rfl
        have c_b_6_2 := R_b_2.cell 6 rfl
        have c_b_7_2 := R_b_2.cell 7 rfl
        have c_b_8_2 := R_b_2.cell 8 rfl
        have c_b_9_2 := R_b_2.cell 9 rfl
        have l_b_2 := R_b_2.lt
        have R_c_2 : Row w2 (w.heap.size + 1) [.int .i64 B.id, .int .i64 B.kind, .int .i64 B.rooms, .int .i64 B.fr, .int .i64 B.un, .slice ca cn cc, .int .i64 B.pn, .int .i64 B.pd, .int .i64 B.fee, .slice pa pm pc] := by (repeat' (first | (with_reducible assumption) | (with_reducible refine Row.new' _ _ _ (by first | rfl | (simp; done) | omega)) | (with_reducible refine Row.alloc ?_ _) | (with_reducible refine Row.drew ?_) | (with_reducible refine Row.drewN ?_ _) | (with_reducible refine Row.step ?_ (by with_reducible assumption)) | (with_reducible refine Row.set2' ?_ _ _; first | exact ⟨_, _, by with_reducible assumption⟩ | exact ⟨_, _, Row.alloc (by with_reducible assumption) _⟩ | exact ⟨_, _, Row.alloc (Row.alloc (by with_reducible assumption) _) _⟩) | (with_reducible refine Row.other ?_ (by first | omega | (simp; done) | (simp; omega)) _)))
        have c_c_0_2 := R_c_2.cell 0 rfl
        have c_c_1_2 := R_c_2.cell 1 rfl
        have c_c_2_2 := R_c_2.cell 2 rfl
        have c_c_3_2 := R_c_2.cell 3 rfl
        have c_c_4_2 := R_c_2.cell 4 rfl
        have c_c_5_2 := R_c_2.cell 5 rfl
        have c_c_6_2 := R_c_2.cell 6 rfl
        have c_c_7_2 := R_c_2.cell 7 rfl
        have c_c_8_2 := R_c_2.cell 8 rfl
        have c_c_9_2 := R_c_2.cell 9 rfl
        have l_c_2 := R_c_2.lt
        have HB2 : Below w.heap.size w w2 := by (repeat' (first | (with_reducible exact Below.refl _ _) | (with_reducible assumption) | (with_reducible exact Bw.out (by with_reducible assumption)) | (with_reducible refine bw_alloc ?_ _) | (with_reducible refine bw_step ?_ (by with_reducible assumption)) | (with_reducible refine Below.alloc ?_ ?_ _) | (with_reducible refine Below.drew ?_) | (with_reducible refine below_drewN ?_ _) | (with_reducible refine Below.setCell ?_ ?_ _) | (with_reducible refine below_step ?_ (by with_reducible assumption) ?_) | (with_reducible exact Nat.le_refl _) | omega | (simp; omega) | (simp; done)))
        clear R_b_1 c_b_0_1 c_b_1_1 c_b_2_1 c_b_3_1 c_b_4_1 c_b_5_1 c_b_6_1 c_b_7_1 c_b_8_1 c_b_9_1 R_c_1 c_c_0_1 c_c_1_1 c_c_2_1 c_c_3_1 c_c_4_1 c_c_5_1 c_c_6_1 c_c_7_1 c_c_8_1 c_c_9_1 hb1 HB1
        go_wp2_with fail
        go_ret2
        refine ⟨rfl, ?_⟩
        (repeat' (first | (with_reducible exact Below.refl _ _) | (with_reducible assumption) | (with_reducible exact Bw.out (by with_reducible assumption)) | (with_reducible refine bw_alloc ?_ _) | (with_reducible refine bw_step ?_ (by with_reducible assumption)) | (with_reducible refine Below.alloc ?_ ?_ _) | (with_reducible refine Below.drew ?_) | (with_reducible refine below_drewN ?_ _) | (with_reducible refine Below.setCell ?_ ?_ _) | (with_reducible refine below_step ?_ (by with_reducible assumption) ?_) | (with_reducible exact Nat.le_refl _) | omega | (simp; omega) | (simp; done)))
      | true =>
        obtain rfl : E = 0 := by rw [← HE.out]; simp [heE, hv, hd, hh]
        obtain ⟨n1, n2⟩ := hasB_iff.1 hh
        obtain ⟨j, hj⟩ := Int.eq_ofNat_of_zero_le (show 0 ≤ n - B.fr by omega)
        have hjp : j < pm := by have := ok.len; rw [HLP.out] at this; omega
        obtain ⟨z, hz⟩ : ∃ z, B.picked.getD j 0 = z := ⟨_, rfl⟩
        obtain ⟨L, hL⟩ : ∃ L, limI B day = L := ⟨_, rfl⟩
        obtain rfl : V = max L z := by
          rw [← HVV.out]; unfold heV; rw [HE.out, hL, hj, Int.toNat_natCast, hz]; rfl
        have HOK := Lib.hid ok
        have HZ := Lib.hid hz
        have HL := Lib.hid hL
        have HN : Hid (n = B.fr + j) := by show _ = _; omega
        have hfr1 := ok.fr
        have hfr2 : B.fr ≤ 366 := by have := ok.lt; have := ok.un; omega
        have hpm : pm ≤ 366 := by have := ok.len; rw [HLP.out] at this; have := ok.un; omega
        clear hv ok hz hL hj
        go_enter Try.func11, Try.ntmps11
        go_wp2_with fail
        refine (g_valid_any B ca cn cc pa pm pc _ (HIN.out.below (by (repeat' (first | (with_reducible exact Below.refl _ _) | (with_reducible assumption) | (with_reducible exact Bw.out (by with_reducible assumption)) | (with_reducible refine bw_alloc ?_ _) | (with_reducible refine bw_step ?_ (by with_reducible assumption)) | (with_reducible refine Below.alloc ?_ ?_ _) | (with_reducible refine Below.drew ?_) | (with_reducible refine below_drewN ?_ _) | (with_reducible refine Below.setCell ?_ ?_ _) | (with_reducible refine below_step ?_ (by with_reducible assumption) ?_) | (with_reducible exact Nat.le_refl _) | omega | (simp; omega) | (simp; done))))) true HV.out).mono ?_
        rintro e w1 ⟨rfl, hb1⟩
        have R_b_1 : Row w1 (w.heap.size) [.int .i64 B.id, .int .i64 B.kind, .int .i64 B.rooms, .int .i64 B.fr, .int .i64 B.un, .slice ca cn cc, .int .i64 B.pn, .int .i64 B.pd, .int .i64 B.fee, .slice pa pm pc] := by (repeat' (first | (with_reducible assumption) | (with_reducible refine Row.new' _ _ _ (by first | rfl | (simp; done) | omega)) | (with_reducible refine Row.alloc ?_ _) | (with_reducible refine Row.drew ?_) | (with_reducible refine Row.drewN ?_ _) | (with_reducible refine Row.step ?_ (by with_reducible assumption)) | (with_reducible refine Row.set2' ?_ _ _; first | exact ⟨_, _, by with_reducible assumption⟩ | exact ⟨_, _, Row.alloc (by with_reducible assumption) _⟩ | exact ⟨_, _, Row.alloc (Row.alloc (by with_reducible assumption) _) _⟩) | (with_reducible refine Row.other ?_ (by first | omega | (simp; done) | (simp; omega)) _)))
        have c_b_0_1 := R_b_1.cell 0 rfl
        have c_b_1_1 := R_b_1.cell 1 rfl
        have c_b_2_1 := R_b_1.cell 2 rfl
        have c_b_3_1 := R_b_1.cell 3 rfl
        have c_b_4_1 := R_b_1.cell 4 rfl
        have c_b_5_1 := R_b_1.cell 5 rfl
        have c_b_6_1 := R_b_1.cell 6 rfl
        have c_b_7_1 := R_b_1.cell 7 rfl
        have c_b_8_1 := R_b_1.cell 8 rfl
        have c_b_9_1 := R_b_1.cell 9 rfl
        have l_b_1 := R_b_1.lt
        have R_c_1 : Row w1 (w.heap.size + 1) [.int .i64 B.id, .int .i64 B.kind, .int .i64 B.rooms, .int .i64 B.fr, .int .i64 B.un, .slice ca cn cc, .int .i64 B.pn, .int .i64 B.pd, .int .i64 B.fee, .slice pa pm pc] := by (repeat' (first | (with_reducible assumption) | (with_reducible refine Row.new' _ _ _ (by first | rfl | (simp; done) | omega)) | (with_reducible refine Row.alloc ?_ _) | (with_reducible refine Row.drew ?_) | (with_reducible refine Row.drewN ?_ _) | (with_reducible refine Row.step ?_ (by with_reducible assumption)) | (with_reducible refine Row.set2' ?_ _ _; first | exact ⟨_, _, by with_reducible assumption⟩ | exact ⟨_, _, Row.alloc (by with_reducible assumption) _⟩ | exact ⟨_, _, Row.alloc (Row.alloc (by with_reducible assumption) _) _⟩) | (with_reducible refine Row.other ?_ (by first | omega | (simp; done) | (simp; omega)) _)))
        have c_c_0_1 := R_c_1.cell 0 rfl
        have c_c_1_1 := R_c_1.cell 1 rfl
        have c_c_2_1 := R_c_1.cell 2 rfl
        have c_c_3_1 := R_c_1.cell 3 rfl
        have c_c_4_1 := R_c_1.cell 4 rfl
        have c_c_5_1 := R_c_1.cell 5 rfl
        have c_c_6_1 := R_c_1.cell 6 rfl
        have c_c_7_1 := R_c_1.cell 7 rfl
        have c_c_8_1 := R_c_1.cell 8 rfl
        have c_c_9_1 := R_c_1.cell 9 rfl
        have l_c_1 := R_c_1.lt
        have HB1 : Below w.heap.size w w1 := by (repeat' (first | (with_reducible exact Below.refl _ _) | (with_reducible assumption) | (with_reducible exact Bw.out (by with_reducible assumption)) | (with_reducible refine bw_alloc ?_ _) | (with_reducible refine bw_step ?_ (by with_reducible assumption)) | (with_reducible refine Below.alloc ?_ ?_ _) | (with_reducible refine Below.drew ?_) | (with_reducible refine below_drewN ?_ _) | (with_reducible refine Below.setCell ?_ ?_ _) | (with_reducible refine below_step ?_ (by with_reducible assumption) ?_) | (with_reducible exact Nat.le_refl _) | omega | (simp; omega) | (simp; done)))
        go_wp2_with fail
        refine (g_isDay day _).mono ?_
        rintro e w' ⟨rfl, rfl⟩
        rw [hd]
        go_wp2_with fail
        refine (g_has B n ca cn cc pa pm pc _ true hh).mono ?_
        rintro e w2 ⟨rfl, hb2⟩
        have R_b_2 : Row w2 (w.heap.size) [.int .i64 B.id, .int .i64 B.kind, .int .i64 B.rooms, .int .i64 B.fr, .int .i64 B.un, .slice ca cn cc, .int .i64 B.pn, .int .i64 B.pd, .int .i64 B.fee, .slice pa pm pc] := by (repeat' (first | (with_reducible assumption) | (with_reducible refine Row.new' _ _ _ (by first | rfl | (simp; done) | omega)) | (with_reducible refine Row.alloc ?_ _) | (with_reducible refine Row.drew ?_) | (with_reducible refine Row.drewN ?_ _) | (with_reducible refine Row.step ?_ (by with_reducible assumption)) | (with_reducible refine Row.set2' ?_ _ _; first | exact ⟨_, _, by with_reducible assumption⟩ | exact ⟨_, _, Row.alloc (by with_reducible assumption) _⟩ | exact ⟨_, _, Row.alloc (Row.alloc (by with_reducible assumption) _) _⟩) | (with_reducible refine Row.other ?_ (by first | omega | (simp; done) | (simp; omega)) _)))
        have c_b_0_2 := R_b_2.cell 0 rfl
        have c_b_1_2 := R_b_2.cell 1 rfl
        have c_b_2_2 := R_b_2.cell 2 rfl
        have c_b_3_2 := R_b_2.cell 3 rfl
        have c_b_4_2 := R_b_2.cell 4 rfl
        have c_b_5_2 := R_b_2.cell 5 rfl
        have c_b_6_2 := R_b_2.cell 6 rfl
        have c_b_7_2 := R_b_2.cell 7 rfl
        have c_b_8_2 := R_b_2.cell 8 rfl
        have c_b_9_2 := R_b_2.cell 9 rfl
        have l_b_2 := R_b_2.lt
        have R_c_2 : Row w2 (w.heap.size + 1) [.int .i64 B.id, .int .i64 B.kind, .int .i64 B.rooms, .int .i64 B.fr, .int .i64 B.un, .slice ca cn cc, .int .i64 B.pn, .int .i64 B.pd, .int .i64 B.fee, .slice pa pm pc] := by (repeat' (first | (with_reducible assumption) | (with_reducible refine Row.new' _ _ _ (by first | rfl | (simp; done) | omega)) | (with_reducible refine Row.alloc ?_ _) | (with_reducible refine Row.drew ?_) | (with_reducible refine Row.drewN ?_ _) | (with_reducible refine Row.step ?_ (by with_reducible assumption)) | (with_reducible refine Row.set2' ?_ _ _; first | exact ⟨_, _, by with_reducible assumption⟩ | exact ⟨_, _, Row.alloc (by with_reducible assumption) _⟩ | exact ⟨_, _, Row.alloc (Row.alloc (by with_reducible assumption) _) _⟩) | (with_reducible refine Row.other ?_ (by first | omega | (simp; done) | (simp; omega)) _)))
        have c_c_0_2 := R_c_2.cell 0 rfl
        have c_c_1_2 := R_c_2.cell 1 rfl
        have c_c_2_2 := R_c_2.cell 2 rfl
        have c_c_3_2 := R_c_2.cell 3 rfl
        have c_c_4_2 := R_c_2.cell 4 rfl
        have c_c_5_2 := R_c_2.cell 5 rfl
        have c_c_6_2 := R_c_2.cell 6 rfl
        have c_c_7_2 := R_c_2.cell 7 rfl
        have c_c_8_2 := R_c_2.cell 8 rfl
        have c_c_9_2 := R_c_2.cell 9 rfl
        have l_c_2 := R_c_2.lt
        have HB2 : Below w.heap.size w w2 := by (repeat' (first | (with_reducible exact Below.refl _ _) | (with_reducible assumption) | (with_reducible exact Bw.out (by with_reducible assumption)) | (with_reducible refine bw_alloc ?_ _) | (with_reducible refine bw_step ?_ (by with_reducible assumption)) | (with_reducible refine Below.alloc ?_ ?_ _) | (with_reducible refine Below.drew ?_) | (with_reducible refine below_drewN ?_ _) | (with_reducible refine Below.setCell ?_ ?_ _) | (with_reducible refine below_step ?_ (by with_reducible assumption) ?_) | (with_reducible exact Nat.le_refl _) | omega | (simp; omega) | (simp; done)))
        clear R_b_1 c_b_0_1 c_b_1_1 c_b_2_1 c_b_3_1 c_b_4_1 c_b_5_1 c_b_6_1 c_b_7_1 c_b_8_1 c_b_9_1 R_c_1 c_c_0_1 c_c_1_1 c_c_2_1 c_c_3_1 c_c_4_1 c_c_5_1 c_c_6_1 c_c_7_1 c_c_8_1 c_c_9_1 hb1 HB1
        go_wp2_with fail
        refine AnyJ.beginP (fun w' : World => w'.cell? ⟨w.heap.size, 0, none⟩ = some (.int .i64 B.id) ∧ w'.cell? ⟨w.heap.size, 1, none⟩ = some (.int .i64 B.kind) ∧ w'.cell? ⟨w.heap.size, 2, none⟩ = some (.int .i64 B.rooms) ∧ w'.cell? ⟨w.heap.size, 3, none⟩ = some (.int .i64 B.fr) ∧ w'.cell? ⟨w.heap.size, 4, none⟩ = some (.int .i64 B.un) ∧ w'.cell? ⟨w.heap.size, 5, none⟩ = some (.slice ca cn cc) ∧ w'.cell? ⟨w.heap.size, 6, none⟩ = some (.int .i64 B.pn) ∧ w'.cell? ⟨w.heap.size, 7, none⟩ = some (.int .i64 B.pd) ∧ w'.cell? ⟨w.heap.size, 8, none⟩ = some (.int .i64 B.fee) ∧ w'.cell? ⟨w.heap.size, 9, none⟩ = some (.slice pa pm pc) ∧ w'.cell? ⟨w.heap.size + 1, 0, none⟩ = some (.int .i64 B.id) ∧ w'.cell? ⟨w.heap.size + 1, 1, none⟩ = some (.int .i64 B.kind) ∧ w'.cell? ⟨w.heap.size + 1, 2, none⟩ = some (.int .i64 B.rooms) ∧ w'.cell? ⟨w.heap.size + 1, 3, none⟩ = some (.int .i64 B.fr) ∧ w'.cell? ⟨w.heap.size + 1, 4, none⟩ = some (.int .i64 B.un) ∧ w'.cell? ⟨w.heap.size + 1, 5, none⟩ = some (.slice ca cn cc) ∧ w'.cell? ⟨w.heap.size + 1, 6, none⟩ = some (.int .i64 B.pn) ∧ w'.cell? ⟨w.heap.size + 1, 7, none⟩ = some (.int .i64 B.pd) ∧ w'.cell? ⟨w.heap.size + 1, 8, none⟩ = some (.int .i64 B.fee) ∧ w'.cell? ⟨w.heap.size + 1, 9, none⟩ = some (.slice pa pm pc)) (fun _ => true) (by kernel_rfl) ?_ (fun hS2 => ?_)
        · exact (show ∀ (P S : World → Prop) (W : World), P W → (∀ w', P w' → S w') → S W from fun P S W h f => f W h) (fun w' : World => Row w' (w.heap.size) [.int .i64 B.id, .int .i64 B.kind, .int .i64 B.rooms, .int .i64 B.fr, .int .i64 B.un, .slice ca cn cc, .int .i64 B.pn, .int .i64 B.pd, .int .i64 B.fee, .slice pa pm pc] ∧ Row w' (w.heap.size + 1) [.int .i64 B.id, .int .i64 B.kind, .int .i64 B.rooms, .int .i64 B.fr, .int .i64 B.un, .slice ca cn cc, .int .i64 B.pn, .int .i64 B.pd, .int .i64 B.fee, .slice pa pm pc]) (fun w' : World => w'.cell? ⟨w.heap.size, 0, none⟩ = some (.int .i64 B.id) ∧ w'.cell? ⟨w.heap.size, 1, none⟩ = some (.int .i64 B.kind) ∧ w'.cell? ⟨w.heap.size, 2, none⟩ = some (.int .i64 B.rooms) ∧ w'.cell? ⟨w.heap.size, 3, none⟩ = some (.int .i64 B.fr) ∧ w'.cell? ⟨w.heap.size, 4, none⟩ = some (.int .i64 B.un) ∧ w'.cell? ⟨w.heap.size, 5, none⟩ = some (.slice ca cn cc) ∧ w'.cell? ⟨w.heap.size, 6, none⟩ = some (.int .i64 B.pn) ∧ w'.cell? ⟨w.heap.size, 7, none⟩ = some (.int .i64 B.pd) ∧ w'.cell? ⟨w.heap.size, 8, none⟩ = some (.int .i64 B.fee) ∧ w'.cell? ⟨w.heap.size, 9, none⟩ = some (.slice pa pm pc) ∧ w'.cell? ⟨w.heap.size + 1, 0, none⟩ = some (.int .i64 B.id) ∧ w'.cell? ⟨w.heap.size + 1, 1, none⟩ = some (.int .i64 B.kind) ∧ w'.cell? ⟨w.heap.size + 1, 2, none⟩ = some (.int .i64 B.rooms) ∧ w'.cell? ⟨w.heap.size + 1, 3, none⟩ = some (.int .i64 B.fr) ∧ w'.cell? ⟨w.heap.size + 1, 4, none⟩ = some (.int .i64 B.un) ∧ w'.cell? ⟨w.heap.size + 1, 5, none⟩ = some (.slice ca cn cc) ∧ w'.cell? ⟨w.heap.size + 1, 6, none⟩ = some (.int .i64 B.pn) ∧ w'.cell? ⟨w.heap.size + 1, 7, none⟩ = some (.int .i64 B.pd) ∧ w'.cell? ⟨w.heap.size + 1, 8, none⟩ = some (.int .i64 B.fee) ∧ w'.cell? ⟨w.heap.size + 1, 9, none⟩ = some (.slice pa pm pc)) _ (⟨by (repeat' (first | (with_reducible assumption) | (with_reducible refine Row.new' _ _ _ (by first | rfl | (simp; done) | omega)) | (with_reducible refine Row.alloc ?_ _) | (with_reducible refine Row.drew ?_) | (with_reducible refine Row.drewN ?_ _) | (with_reducible refine Row.step ?_ (by with_reducible assumption)) | (with_reducible refine Row.set2' ?_ _ _; first | exact ⟨_, _, by with_reducible assumption⟩ | exact ⟨_, _, Row.alloc (by with_reducible assumption) _⟩ | exact ⟨_, _, Row.alloc (Row.alloc (by with_reducible assumption) _) _⟩) | (with_reducible refine Row.other ?_ (by first | omega | (simp; done) | (simp; omega)) _))), by (repeat' (first | (with_reducible assumption) | (with_reducible refine Row.new' _ _ _ (by first | rfl | (simp; done) | omega)) | (with_reducible refine Row.alloc ?_ _) | (with_reducible refine Row.drew ?_) | (with_reducible refine Row.drewN ?_ _) | (with_reducible refine Row.step ?_ (by with_reducible assumption)) | (with_reducible refine Row.set2' ?_ _ _; first | exact ⟨_, _, by with_reducible assumption⟩ | exact ⟨_, _, Row.alloc (by with_reducible assumption) _⟩ | exact ⟨_, _, Row.alloc (Row.alloc (by with_reducible assumption) _) _⟩) | (with_reducible refine Row.other ?_ (by first | omega | (simp; done) | (simp; omega)) _)))⟩) (fun w' ⟨hP0, hP1⟩ => ⟨hP0.cell 0 rfl, hP0.cell 1 rfl, hP0.cell 2 rfl, hP0.cell 3 rfl, hP0.cell 4 rfl, hP0.cell 5 rfl, hP0.cell 6 rfl, hP0.cell 7 rfl, hP0.cell 8 rfl, hP0.cell 9 rfl, hP1.cell 0 rfl, hP1.cell 1 rfl, hP1.cell 2 rfl, hP1.cell 3 rfl, hP1.cell 4 rfl, hP1.cell 5 rfl, hP1.cell 6 rfl, hP1.cell 7 rfl, hP1.cell 8 rfl, hP1.cell 9 rfl⟩)
        refine AnyJ.takeD (i := 0) (d := some 25) (v := ?_) rfl (by kernel_rfl) (by kernel_rfl) (by kernel_rfl) (by kernel_rfl) (by kernel_rfl) (fun _ _ _ h => h) (Or.inl ⟨by kernel_rfl, ?_⟩) hS2 ?_
        rotate_left
        · intro w' hS
          obtain ⟨sF0, sF1, sF2, sF3, sF4, sF5, sF6, sF7, sF8, sF9, sF10, sF11, sF12, sF13, sF14, sF15, sF16, sF17, sF18, sF19⟩ := hS
          go_simp
          try with_reducible rfl
        refine AnyJ.takeD (i := 1) (d := some 26) (v := ?_) rfl (by kernel_rfl) (by kernel_rfl) (by kernel_rfl) (by kernel_rfl) (by kernel_rfl) (fun _ _ _ h => h) (Or.inl ⟨by kernel_rfl, ?_⟩) hS2 ?_
        rotate_left
        · intro w' hS
          clear hS
          go_simp
          try with_reducible rfl
        refine AnyJ.takeD (i := 3) (d := some 28) (v := ?_) rfl (by kernel_rfl) (by kernel_rfl) (by kernel_rfl) (by kernel_rfl) (by kernel_rfl) (fun _ _ _ h => h) (Or.inl ⟨by kernel_rfl, ?_⟩) hS2 ?_
        rotate_left
        · intro w' hS
          obtain ⟨sF0, sF1, sF2, sF3, sF4, sF5, sF6, sF7, sF8, sF9, sF10, sF11, sF12, sF13, sF14, sF15, sF16, sF17, sF18, sF19⟩ := hS
          go_simp
          try with_reducible rfl
        refine AnyJ.takeD (i := 4) (d := some 29) (v := ?_) rfl (by kernel_rfl) (by kernel_rfl) (by kernel_rfl) (by kernel_rfl) (by kernel_rfl) (fun _ _ _ h => h) (Or.inl ⟨by kernel_rfl, ?_⟩) hS2 ?_
        rotate_left
        · intro w' hS
          clear hS
          go_simp
          try with_reducible rfl
        refine AnyJ.one (i := 2) (by kernel_rfl) rfl (fun Kz hKz => ?_)
        go_simp
        refine (limit_c B day L ca cn cc pa pm pc _ (HIN.out.below (by (repeat' (first | (with_reducible exact Below.refl _ _) | (with_reducible assumption) | (with_reducible exact Bw.out (by with_reducible assumption)) | (with_reducible refine bw_alloc ?_ _) | (with_reducible refine bw_step ?_ (by with_reducible assumption)) | (with_reducible refine Below.alloc ?_ ?_ _) | (with_reducible refine Below.drew ?_) | (with_reducible refine below_drewN ?_ _) | (with_reducible refine Below.setCell ?_ ?_ _) | (with_reducible refine below_step ?_ (by with_reducible assumption) ?_) | (with_reducible exact Nat.le_refl _) | omega | (simp; omega) | (simp; done))))) HOK.out HL.out).mono ?_
        rintro e w3 ⟨rfl, hb3⟩
        have R_b_3 : Row w3 (w.heap.size) [.int .i64 B.id, .int .i64 B.kind, .int .i64 B.rooms, .int .i64 B.fr, .int .i64 B.un, .slice ca cn cc, .int .i64 B.pn, .int .i64 B.pd, .int .i64 B.fee, .slice pa pm pc] := by (repeat' (first | (with_reducible assumption) | (with_reducible refine Row.new' _ _ _ (by first | rfl | (simp; done) | omega)) | (with_reducible refine Row.alloc ?_ _) | (with_reducible refine Row.drew ?_) | (with_reducible refine Row.drewN ?_ _) | (with_reducible refine Row.step ?_ (by with_reducible assumption)) | (with_reducible refine Row.set2' ?_ _ _; first | exact ⟨_, _, by with_reducible assumption⟩ | exact ⟨_, _, Row.alloc (by with_reducible assumption) _⟩ | exact ⟨_, _, Row.alloc (Row.alloc (by with_reducible assumption) _) _⟩) | (with_reducible refine Row.other ?_ (by first | omega | (simp; done) | (simp; omega)) _)))
        have c_b_0_3 := R_b_3.cell 0 rfl
        have c_b_1_3 := R_b_3.cell 1 rfl
        have c_b_2_3 := R_b_3.cell 2 rfl
        have c_b_3_3 := R_b_3.cell 3 rfl
        have c_b_4_3 := R_b_3.cell 4 rfl
        have c_b_5_3 := R_b_3.cell 5 rfl
        have c_b_6_3 := R_b_3.cell 6 rfl
        have c_b_7_3 := R_b_3.cell 7 rfl
        have c_b_8_3 := R_b_3.cell 8 rfl
        have c_b_9_3 := R_b_3.cell 9 rfl
        have l_b_3 := R_b_3.lt
        have R_c_3 : Row w3 (w.heap.size + 1) [.int .i64 B.id, .int .i64 B.kind, .int .i64 B.rooms, .int .i64 B.fr, .int .i64 B.un, .slice ca cn cc, .int .i64 B.pn, .int .i64 B.pd, .int .i64 B.fee, .slice pa pm pc] := by (repeat' (first | (with_reducible assumption) | (with_reducible refine Row.new' _ _ _ (by first | rfl | (simp; done) | omega)) | (with_reducible refine Row.alloc ?_ _) | (with_reducible refine Row.drew ?_) | (with_reducible refine Row.drewN ?_ _) | (with_reducible refine Row.step ?_ (by with_reducible assumption)) | (with_reducible refine Row.set2' ?_ _ _; first | exact ⟨_, _, by with_reducible assumption⟩ | exact ⟨_, _, Row.alloc (by with_reducible assumption) _⟩ | exact ⟨_, _, Row.alloc (Row.alloc (by with_reducible assumption) _) _⟩) | (with_reducible refine Row.other ?_ (by first | omega | (simp; done) | (simp; omega)) _)))
        have c_c_0_3 := R_c_3.cell 0 rfl
        have c_c_1_3 := R_c_3.cell 1 rfl
        have c_c_2_3 := R_c_3.cell 2 rfl
        have c_c_3_3 := R_c_3.cell 3 rfl
        have c_c_4_3 := R_c_3.cell 4 rfl
        have c_c_5_3 := R_c_3.cell 5 rfl
        have c_c_6_3 := R_c_3.cell 6 rfl
        have c_c_7_3 := R_c_3.cell 7 rfl
        have c_c_8_3 := R_c_3.cell 8 rfl
        have c_c_9_3 := R_c_3.cell 9 rfl
        have l_c_3 := R_c_3.lt
        have HB3 : Below w.heap.size w w3 := by (repeat' (first | (with_reducible exact Below.refl _ _) | (with_reducible assumption) | (with_reducible exact Bw.out (by with_reducible assumption)) | (with_reducible refine bw_alloc ?_ _) | (with_reducible refine bw_step ?_ (by with_reducible assumption)) | (with_reducible refine Below.alloc ?_ ?_ _) | (with_reducible refine Below.drew ?_) | (with_reducible refine below_drewN ?_ _) | (with_reducible refine Below.setCell ?_ ?_ _) | (with_reducible refine below_step ?_ (by with_reducible assumption) ?_) | (with_reducible exact Nat.le_refl _) | omega | (simp; omega) | (simp; done)))
        have hS3 : (fun w' : World => w'.cell? ⟨w.heap.size, 0, none⟩ = some (.int .i64 B.id) ∧ w'.cell? ⟨w.heap.size, 1, none⟩ = some (.int .i64 B.kind) ∧ w'.cell? ⟨w.heap.size, 2, none⟩ = some (.int .i64 B.rooms) ∧ w'.cell? ⟨w.heap.size, 3, none⟩ = some (.int .i64 B.fr) ∧ w'.cell? ⟨w.heap.size, 4, none⟩ = some (.int .i64 B.un) ∧ w'.cell? ⟨w.heap.size, 5, none⟩ = some (.slice ca cn cc) ∧ w'.cell? ⟨w.heap.size, 6, none⟩ = some (.int .i64 B.pn) ∧ w'.cell? ⟨w.heap.size, 7, none⟩ = some (.int .i64 B.pd) ∧ w'.cell? ⟨w.heap.size, 8, none⟩ = some (.int .i64 B.fee) ∧ w'.cell? ⟨w.heap.size, 9, none⟩ = some (.slice pa pm pc) ∧ w'.cell? ⟨w.heap.size + 1, 0, none⟩ = some (.int .i64 B.id) ∧ w'.cell? ⟨w.heap.size + 1, 1, none⟩ = some (.int .i64 B.kind) ∧ w'.cell? ⟨w.heap.size + 1, 2, none⟩ = some (.int .i64 B.rooms) ∧ w'.cell? ⟨w.heap.size + 1, 3, none⟩ = some (.int .i64 B.fr) ∧ w'.cell? ⟨w.heap.size + 1, 4, none⟩ = some (.int .i64 B.un) ∧ w'.cell? ⟨w.heap.size + 1, 5, none⟩ = some (.slice ca cn cc) ∧ w'.cell? ⟨w.heap.size + 1, 6, none⟩ = some (.int .i64 B.pn) ∧ w'.cell? ⟨w.heap.size + 1, 7, none⟩ = some (.int .i64 B.pd) ∧ w'.cell? ⟨w.heap.size + 1, 8, none⟩ = some (.int .i64 B.fee) ∧ w'.cell? ⟨w.heap.size + 1, 9, none⟩ = some (.slice pa pm pc)) w3 := ⟨c_b_0_3, c_b_1_3, c_b_2_3, c_b_3_3, c_b_4_3, c_b_5_3, c_b_6_3, c_b_7_3, c_b_8_3, c_b_9_3, c_c_0_3, c_c_1_3, c_c_2_3, c_c_3_3, c_c_4_3, c_c_5_3, c_c_6_3, c_c_7_3, c_c_8_3, c_c_9_3⟩
        refine hKz _ _ (fun _ => hS3) ?_
        clear hKz Kz hS2
        clear R_b_2 c_b_0_2 c_b_1_2 c_b_2_2 c_b_3_2 c_b_4_2 c_b_5_2 c_b_6_2 c_b_7_2 c_b_8_2 c_b_9_2 R_c_2 c_c_0_2 c_c_1_2 c_c_2_2 c_c_3_2 c_c_4_2 c_c_5_2 c_c_6_2 c_c_7_2 c_c_8_2 c_c_9_2 hb2 HB2
        refine AnyJ.one (i := 5) (by kernel_rfl) rfl (fun Kz hKz => ?_)
        go_simp
        refine (g_picked B n j z ca cn cc pa pm pc _ (HIN.out.picked.below (by (repeat' (first | (with_reducible exact Below.refl _ _) | (with_reducible assumption) | (with_reducible exact Bw.out (by with_reducible assumption)) | (with_reducible refine bw_alloc ?_ _) | (with_reducible refine bw_step ?_ (by with_reducible assumption)) | (with_reducible refine Below.alloc ?_ ?_ _) | (with_reducible refine Below.drew ?_) | (with_reducible refine below_drewN ?_ _) | (with_reducible refine Below.setCell ?_ ?_ _) | (with_reducible refine below_step ?_ (by with_reducible assumption) ?_) | (with_reducible exact Nat.le_refl _) | omega | (simp; omega) | (simp; done))))) hjp HN.out hfr1 hfr2 hpm HZ.out).mono ?_
        rintro e w4 ⟨rfl, hb4⟩
        have R_b_4 : Row w4 (w.heap.size) [.int .i64 B.id, .int .i64 B.kind, .int .i64 B.rooms, .int .i64 B.fr, .int .i64 B.un, .slice ca cn cc, .int .i64 B.pn, .int .i64 B.pd, .int .i64 B.fee, .slice pa pm pc] := by (repeat' (first | (with_reducible assumption) | (with_reducible refine Row.new' _ _ _ (by first | rfl | (simp; done) | omega)) | (with_reducible refine Row.alloc ?_ _) | (with_reducible refine Row.drew ?_) | (with_reducible refine Row.drewN ?_ _) | (with_reducible refine Row.step ?_ (by with_reducible assumption)) | (with_reducible refine Row.set2' ?_ _ _; first | exact ⟨_, _, by with_reducible assumption⟩ | exact ⟨_, _, Row.alloc (by with_reducible assumption) _⟩ | exact ⟨_, _, Row.alloc (Row.alloc (by with_reducible assumption) _) _⟩) | (with_reducible refine Row.other ?_ (by first | omega | (simp; done) | (simp; omega)) _)))
        have c_b_0_4 := R_b_4.cell 0 rfl
        have c_b_1_4 := R_b_4.cell 1 rfl
        have c_b_2_4 := R_b_4.cell 2 rfl
        have c_b_3_4 := R_b_4.cell 3 rfl
        have c_b_4_4 := R_b_4.cell 4 rfl
        have c_b_5_4 := R_b_4.cell 5 rfl
        have c_b_6_4 := R_b_4.cell 6 rfl
        have c_b_7_4 := R_b_4.cell 7 rfl
        have c_b_8_4 := R_b_4.cell 8 rfl
        have c_b_9_4 := R_b_4.cell 9 rfl
        have l_b_4 := R_b_4.lt
        have R_c_4 : Row w4 (w.heap.size + 1) [.int .i64 B.id, .int .i64 B.kind, .int .i64 B.rooms, .int .i64 B.fr, .int .i64 B.un, .slice ca cn cc, .int .i64 B.pn, .int .i64 B.pd, .int .i64 B.fee, .slice pa pm pc] := by (repeat' (first | (with_reducible assumption) | (with_reducible refine Row.new' _ _ _ (by first | rfl | (simp; done) | omega)) | (with_reducible refine Row.alloc ?_ _) | (with_reducible refine Row.drew ?_) | (with_reducible refine Row.drewN ?_ _) | (with_reducible refine Row.step ?_ (by with_reducible assumption)) | (with_reducible refine Row.set2' ?_ _ _; first | exact ⟨_, _, by with_reducible assumption⟩ | exact ⟨_, _, Row.alloc (by with_reducible assumption) _⟩ | exact ⟨_, _, Row.alloc (Row.alloc (by with_reducible assumption) _) _⟩) | (with_reducible refine Row.other ?_ (by first | omega | (simp; done) | (simp; omega)) _)))
        have c_c_0_4 := R_c_4.cell 0 rfl
        have c_c_1_4 := R_c_4.cell 1 rfl
        have c_c_2_4 := R_c_4.cell 2 rfl
        have c_c_3_4 := R_c_4.cell 3 rfl
        have c_c_4_4 := R_c_4.cell 4 rfl
        have c_c_5_4 := R_c_4.cell 5 rfl
        have c_c_6_4 := R_c_4.cell 6 rfl
        have c_c_7_4 := R_c_4.cell 7 rfl
        have c_c_8_4 := R_c_4.cell 8 rfl
        have c_c_9_4 := R_c_4.cell 9 rfl
        have l_c_4 := R_c_4.lt
        have HB4 : Below w.heap.size w w4 := by (repeat' (first | (with_reducible exact Below.refl _ _) | (with_reducible assumption) | (with_reducible exact Bw.out (by with_reducible assumption)) | (with_reducible refine bw_alloc ?_ _) | (with_reducible refine bw_step ?_ (by with_reducible assumption)) | (with_reducible refine Below.alloc ?_ ?_ _) | (with_reducible refine Below.drew ?_) | (with_reducible refine below_drewN ?_ _) | (with_reducible refine Below.setCell ?_ ?_ _) | (with_reducible refine below_step ?_ (by with_reducible assumption) ?_) | (with_reducible exact Nat.le_refl _) | omega | (simp; omega) | (simp; done)))
        have hS4 : (fun w' : World => w'.cell? ⟨w.heap.size, 0, none⟩ = some (.int .i64 B.id) ∧ w'.cell? ⟨w.heap.size, 1, none⟩ = some (.int .i64 B.kind) ∧ w'.cell? ⟨w.heap.size, 2, none⟩ = some (.int .i64 B.rooms) ∧ w'.cell? ⟨w.heap.size, 3, none⟩ = some (.int .i64 B.fr) ∧ w'.cell? ⟨w.heap.size, 4, none⟩ = some (.int .i64 B.un) ∧ w'.cell? ⟨w.heap.size, 5, none⟩ = some (.slice ca cn cc) ∧ w'.cell? ⟨w.heap.size, 6, none⟩ = some (.int .i64 B.pn) ∧ w'.cell? ⟨w.heap.size, 7, none⟩ = some (.int .i64 B.pd) ∧ w'.cell? ⟨w.heap.size, 8, none⟩ = some (.int .i64 B.fee) ∧ w'.cell? ⟨w.heap.size, 9, none⟩ = some (.slice pa pm pc) ∧ w'.cell? ⟨w.heap.size + 1, 0, none⟩ = some (.int .i64 B.id) ∧ w'.cell? ⟨w.heap.size + 1, 1, none⟩ = some (.int .i64 B.kind) ∧ w'.cell? ⟨w.heap.size + 1, 2, none⟩ = some (.int .i64 B.rooms) ∧ w'.cell? ⟨w.heap.size + 1, 3, none⟩ = some (.int .i64 B.fr) ∧ w'.cell? ⟨w.heap.size + 1, 4, none⟩ = some (.int .i64 B.un) ∧ w'.cell? ⟨w.heap.size + 1, 5, none⟩ = some (.slice ca cn cc) ∧ w'.cell? ⟨w.heap.size + 1, 6, none⟩ = some (.int .i64 B.pn) ∧ w'.cell? ⟨w.heap.size + 1, 7, none⟩ = some (.int .i64 B.pd) ∧ w'.cell? ⟨w.heap.size + 1, 8, none⟩ = some (.int .i64 B.fee) ∧ w'.cell? ⟨w.heap.size + 1, 9, none⟩ = some (.slice pa pm pc)) w4 := ⟨c_b_0_4, c_b_1_4, c_b_2_4, c_b_3_4, c_b_4_4, c_b_5_4, c_b_6_4, c_b_7_4, c_b_8_4, c_b_9_4, c_c_0_4, c_c_1_4, c_c_2_4, c_c_3_4, c_c_4_4, c_c_5_4, c_c_6_4, c_c_7_4, c_c_8_4, c_c_9_4⟩
        refine hKz _ _ (fun _ => hS4) ?_
        clear hKz Kz hS3
        clear R_b_3 c_b_0_3 c_b_1_3 c_b_2_3 c_b_3_3 c_b_4_3 c_b_5_3 c_b_6_3 c_b_7_3 c_b_8_3 c_b_9_3 R_c_3 c_c_0_3 c_c_1_3 c_c_2_3 c_c_3_3 c_c_4_3 c_c_5_3 c_c_6_3 c_c_7_3 c_c_8_3 c_c_9_3 hb3 HB3
        refine AnyJ.takeD (i := 6) (d := some 31) (v := ?_) rfl (by kernel_rfl) (by kernel_rfl) (by kernel_rfl) (by kernel_rfl) (by kernel_rfl) (fun _ _ _ h => h) (Or.inl ⟨by kernel_rfl, ?_⟩) hS4 ?_
        rotate_left
        · intro w' hS
          clear hS
          go_simp
          try with_reducible rfl
        refine AnyJ.takeD (i := 7) (d := some 6) (v := ?_) rfl (by kernel_rfl) (by kernel_rfl) (by kernel_rfl) (by kernel_rfl) (by kernel_rfl) (fun _ _ _ h => h) (Or.inl ⟨by kernel_rfl, ?_⟩) hS4 ?_
        rotate_left
        · intro w' hS
          clear hS
          go_simp
          try with_reducible rfl
        refine AnyJ.takeD (i := 8) (d := some 7) (v := ?_) rfl (by kernel_rfl) (by kernel_rfl) (by kernel_rfl) (by kernel_rfl) (by kernel_rfl) (fun _ _ _ h => h) (Or.inl ⟨by kernel_rfl, ?_⟩) hS4 ?_
        rotate_left
        · intro w' hS
          clear hS
          go_simp
          try with_reducible rfl
        refine AnyJ.done (by kernel_rfl) ?_ _
        clear hS4
        simp only [Act.put, List.setIfInBounds_toArray, List.set_cons_zero, List.set_cons_succ]
        go_wp2_with fail
        all_goals
          go_ret2
          refine ⟨ret2_int (by omega) rfl, ?_⟩
          (repeat' (first | (with_reducible exact Below.refl _ _) | (with_reducible assumption) | (with_reducible exact Bw.out (by with_reducible assumption)) | (with_reducible refine bw_alloc ?_ _) | (with_reducible refine bw_step ?_ (by with_reducible assumption)) | (with_reducible refine Below.alloc ?_ ?_ _) | (with_reducible refine Below.drew ?_) | (with_reducible refine below_drewN ?_ _) | (with_reducible refine Below.setCell ?_ ?_ _) | (with_reducible refine below_step ?_ (by with_reducible assumption) ?_) | (with_reducible exact Nat.le_refl _) | omega | (simp; omega) | (simp; done)))

end Go.Proofs.Ytjmlkdopbiedaaa
