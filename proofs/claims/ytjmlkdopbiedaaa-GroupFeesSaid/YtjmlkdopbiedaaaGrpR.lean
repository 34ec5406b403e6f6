/-
  The walks of the reference's Limit and Held.
-/
import Derived.Test.YtjmlkdopbiedaaaGrpG
import Derived.Test.YtjmlkdopbiedaaaGrpD
namespace Go.Proofs.Ytjmlkdopbiedaaa
set_option linter.unusedSimpArgs false
set_option linter.unusedVariables false
open Go.RowKit

theorem R_Part_ok (n a b : Int) (w : World) (hp : partB a b = true) (h0 : 0 ≤ n) (h1 : n ≤ 1000000000) :
    Calls Try.prog 37 #[.int .i64 n, .agg #[.int .i64 a, .int .i64 b], .int .i64 2] w fun e w' =>
      e = .returned (.tuple #[.int .i64 (rnd 2 (n * a) b), .int .i64 0]) ∧ Below w.heap.size w w' := by
  have h := R_part2_any n a b w
  rw [(part_ok hp h0 h1).1, (part_ok hp h0 h1).2] at h
  exact h

theorem limR_take {day n : Int} {l : List CutV} {k : Nat} {x : CutV} (h : l[k]? = some x) : limR day n (l.take (k + 1)) = if x.1 ≤ day then capG (limR day n (l.take k)) x else limR day n (l.take k) := by
  rw [List.take_add_one, h]
  exact limR_snoc _ _ _ _

set_option maxRecDepth 100000 in
set_option maxHeartbeats 6400000 in
theorem r_limit (B : Blk) (day : Int) (L : Int) (ca : Option Addr) (cn cc : Nat) (pa : Option Addr) (pm pc : Nat) (w : World) (hin : BlkIn w B ca cn cc pa pm pc) (h : B.Ok) (hL : limI B day = L) :
    Calls Try.prog 22 #[.agg #[.int .i64 B.id, .int .i64 B.kind, .int .i64 B.rooms, .int .i64 B.fr, .int .i64 B.un, .slice ca cn cc, .int .i64 B.pn, .int .i64 B.pd, .int .i64 B.fee, .slice pa pm pc], .int .i64 day] w fun e w' => e = .returned (.int .i64 L) ∧ Below w.heap.size w w' := by
  have HC := Lib.hid hin.cuts
  have HLC : Hid (B.cuts.length = cn) := hin.cuts.1
  have HP := Lib.hid (cutsB_parts h.cuts)
  have HL := Lib.hid hL
  have hr0 : 0 ≤ B.rooms := by have := h.rooms; omega
  have hr1 := h.rooms.2
  have hc20 : cn ≤ 20 := by have := h.few; rw [HLC.out] at this; exact this
  clear hin hL h
  go_enter Try.func22, Try.ntmps22
  go_wp2_with fail
  have R_b_0 : Row (w.alloc (.cells #[.int .i64 B.id, .int .i64 B.kind, .int .i64 B.rooms, .int .i64 B.fr, .int .i64 B.un, .slice ca cn cc, .int .i64 B.pn, .int .i64 B.pd, .int .i64 B.fee, .slice pa pm pc] 29)) w.heap.size [.int .i64 B.id, .int .i64 B.kind, .int .i64 B.rooms, .int .i64 B.fr, .int .i64 B.un, .slice ca cn cc, .int .i64 B.pn, .int .i64 B.pd, .int .i64 B.fee, .slice pa pm pc] := Row.new' _ [.int .i64 B.id, .int .i64 B.kind, .int .i64 B.rooms, .int .i64 B.fr, .int .i64 B.un, .slice ca cn cc, .int .i64 B.pn, .int .i64 B.pd, .int .i64 B.fee, .slice pa pm pc] _ rfl
  go_loopw [5, 6] (fun n i wr => ∃ (k : Nat) (N : Int), k ≤ cn ∧ i = .int .i64 k ∧ n = .int .i64 N ∧ 0 ≤ N ∧ N ≤ 400 ∧ Hid (limR day B.rooms (B.cuts.take k) = N) ∧ Hid (Row wr w.heap.size [.int .i64 B.id, .int .i64 B.kind, .int .i64 B.rooms, .int .i64 B.fr, .int .i64 B.un, .slice ca cn cc, .int .i64 B.pn, .int .i64 B.pd, .int .i64 B.fee, .slice pa pm pc]) ∧ Bw w.heap.size w wr) (fun _ i _ => cn - (intOf i).toNat)
  case atStart => exact ⟨0, B.rooms, Nat.zero_le _, rfl, rfl, hr0, hr1, by show _ = _; simp [limR], R_b_0, by show Below _ _ _; (repeat' (first | (with_reducible exact Below.refl _ _) | (with_reducible assumption) | (with_reducible exact Bw.out (by with_reducible assumption)) | (with_reducible refine bw_alloc ?_ _) | (with_reducible refine bw_step ?_ (by with_reducible assumption)) | (with_reducible refine Below.alloc ?_ ?_ _) | (with_reducible refine Below.drew ?_) | (with_reducible refine below_drewN ?_ _) | (with_reducible refine Below.setCell ?_ ?_ _) | (with_reducible refine below_step ?_ (by with_reducible assumption) ?_) | (with_reducible exact Nat.le_refl _) | omega | (simp; omega) | (simp; done)))⟩
  case round =>
    obtain ⟨k, N, hk, rfl, rfl, hN0, hN1, hT, hRb, hB⟩ := hrel
    obtain ⟨w1, hw1⟩ : ∃ wd : World, wd = wr := ⟨_, rfl⟩
    subst hw1
    have HB1 := hB.out
    have R_b_1 := hRb.out
    have c_b_5_1 := R_b_1.cell 5 rfl
    have l_b_1 := R_b_1.lt
    clear hRb hB R_b_0
    by_cases hlt : k < cn
    · obtain ⟨d, kn, kd, b, off, g1, gd, gx, rfl, hbl, cd, ckn, ckd⟩ := (HC.out.below HB1).get hlt
      have hp : partB kn kd = true := HP.out _ (List.mem_of_getElem? gx.out)
      have HP2 := Lib.hid hp
      have i1 : (0 : Int) ≤ (k : Int) := by omega
      have i2 : (k : Int) < (cn : Int) := by omega
      clear hp
      by_cases hday : d ≤ day
      · have HT2 : Hid (limR day B.rooms (B.cuts.take (k + 1)) = rnd 2 (N * kn) kd) := by
          show _ = _
          rw [limR_take gx.out, if_pos hday, hT.out]; rfl
        obtain ⟨_, p1, p2, p3, _⟩ := partB_in HP2.out
        have hin := rnd_part 2 p3 hN0 p1 p2
        obtain ⟨hi1, hi2⟩ := hin
        clear p1 p2 p3
        go_wp2_with fail
        refine (R_Part_ok N kn kd _ HP2.out hN0 (by omega)).mono ?_
        rintro e w2 ⟨rfl, hb2⟩
        have R_b_2 : Row w2 (w.heap.size) [.int .i64 B.id, .int .i64 B.kind, .int .i64 B.rooms, .int .i64 B.fr, .int .i64 B.un, .slice (some ⟨b, off, none⟩) cn cc, .int .i64 B.pn, .int .i64 B.pd, .int .i64 B.fee, .slice pa pm pc] := by (repeat' (first | (with_reducible assumption) | (with_reducible refine Row.new' _ _ _ (by first | rfl | (simp; done) | omega)) | (with_reducible refine Row.alloc ?_ _) | (with_reducible refine Row.drew ?_) | (with_reducible refine Row.drewN ?_ _) | (with_reducible refine Row.step ?_ (by with_reducible assumption)) | (with_reducible refine Row.set2' ?_ _ _; first | exact ⟨_, _, by with_reducible assumption⟩ | exact ⟨_, _, Row.alloc (by with_reducible assumption) _⟩ | exact ⟨_, _, Row.alloc (Row.alloc (by with_reducible assumption) _) _⟩) | (with_reducible refine Row.other ?_ (by first | omega | (simp; done) | (simp; omega)) _)))
        have c_b_0_2 := R_b_2.cell 0 rfl
        have c_b_1_2 := R_b_2.cell 1 rfl
        have c_b_2_2 := R_b_2.cell 2 rfl
        have c_b_3_2 := R_b_2.cell 3 rfl
        have c_b_4_2 := R_b_2.cell 4 rfl
        have c_b_5_2 := R_b_2.cell 5 rfl
        have c_b_6_2 := R_b_2.cell 6 rfl
        have c_b_7_2 := R_b_2.cell 7 rfl
        have c_b_8_2 := R_b_2.cell 8 rfl
        have c_b_9_2 := R_b_2.cell 9 rfl
        have l_b_2 := R_b_2.lt
        have HB2 : Below w.heap.size w w2 := by (repeat' (first | (with_reducible exact Below.refl _ _) | (with_reducible assumption) | (with_reducible exact Bw.out (by with_reducible assumption)) | (with_reducible refine bw_alloc ?_ _) | (with_reducible refine bw_step ?_ (by with_reducible assumption)) | (with_reducible refine Below.alloc ?_ ?_ _) | (with_reducible refine Below.drew ?_) | (with_reducible refine below_drewN ?_ _) | (with_reducible refine Below.setCell ?_ ?_ _) | (with_reducible refine below_step ?_ (by with_reducible assumption) ?_) | (with_reducible exact Nat.le_refl _) | omega | (simp; omega) | (simp; done)))
        go_wp2_with fail
        go_roundw
        case rel => exact ⟨k + 1, rnd 2 (N * kn) kd, by omega, by go_num, rfl, hi1, by omega, HT2, R_b_2, HB2⟩
        case measure => simp [intOf]; omega
      · have HT2 : Hid (limR day B.rooms (B.cuts.take (k + 1)) = N) := by
          show _ = _
          rw [limR_take gx.out, if_neg hday, hT.out]
        have hday2 : day < d := by omega
        clear hday
        go_wp2_with fail
        go_roundw
        case rel => exact ⟨k + 1, N, by omega, by go_num, rfl, hN0, hN1, HT2, R_b_1, HB1⟩
        case measure => simp [intOf]; omega
    · obtain rfl : k = cn := by omega
      obtain rfl : N = L := by
        rw [← hT.out, List.take_of_length_le (by rw [HLC.out]; omega)]; exact HL.out
      go_wp2_with fail
      go_ret
      exact ⟨rfl, HB1⟩

set_option maxRecDepth 100000 in
set_option maxHeartbeats 6400000 in
theorem r_Held_any (B : Blk) (day n : Int) (ca : Option Addr) (cn cc : Nat) (pa : Option Addr) (pm pc : Nat) (w : World) (hin : BlkIn w B ca cn cc pa pm pc) (V E : Int) (hV : heV B day n = V) (hE : heE B day n = E) :
    Calls Try.prog 12 #[.agg #[.int .i64 B.id, .int .i64 B.kind, .int .i64 B.rooms, .int .i64 B.fr, .int .i64 B.un, .slice ca cn cc, .int .i64 B.pn, .int .i64 B.pd, .int .i64 B.fee, .slice pa pm pc], .int .i64 day, .int .i64 n] w fun e w' => e = .returned (.tuple #[.int .i64 V, .int .i64 E]) ∧ Below w.heap.size w w' := by
  have HIN := Lib.hid hin
  have HLP : Hid (B.picked.length = pm) := hin.picked.1
  have HE := Lib.hid hE
  have HVV := Lib.hid hV
  clear hin hV hE
  cases hv : blkB B with
  | false =>
    have HV := Lib.hid hv
    obtain rfl : E = 1 := by rw [← HE.out]; simp [heE, hv]
    obtain rfl : V = 0 := by rw [← HVV.out]; unfold heV; rw [HE.out]; rfl
    clear hv
    go_enter Try.func12, Try.ntmps12
    go_wp2_with fail
    refine (r_valid_any B ca cn cc pa pm pc _ (HIN.out.below (by (repeat' (first | (with_reducible exact Below.refl _ _) | (with_reducible assumption) | (with_reducible exact Bw.out (by with_reducible assumption)) | (with_reducible refine bw_alloc ?_ _) | (with_reducible refine bw_step ?_ (by with_reducible assumption)) | (with_reducible refine Below.alloc ?_ ?_ _) | (with_reducible refine Below.drew ?_) | (with_reducible refine below_drewN ?_ _) | (with_reducible refine Below.setCell ?_ ?_ _) | (with_reducible refine below_step ?_ (by with_reducible assumption) ?_) | (with_reducible exact Nat.le_refl _) | omega | (simp; omega) | (simp; done))))) false HV.out).mono ?_
    rintro e w1 ⟨rfl, hb1⟩
    have R_b_1 : Row w1 (w.heap.size) [.int .i64 B.id, .int .i64 B.kind, .int .i64 B.rooms, .int .i64 B.fr, .int .i64 B.un, .slice ca cn cc, .int .i64 B.pn, .int .i64 B.pd, .int .i64 B.fee, .slice pa pm pc] := by (repeat' (first | (with_reducible assumption) | (with_reducible refine Row.new' _ _ _ (by first | rfl | (simp; done) | omega)) | (with_reducible refine Row.alloc ?_ _) | (with_reducible refine Row.drew ?_) | (with_reducible refine Row.drewN ?_ _) | (with_reducible refine Row.step ?_ (by with_reducible assumption)) | (with_reducible refine Row.set2' ?_ _ _; first | exact ⟨_, _, by with_reducible assumption⟩ | exact ⟨_, _, Row.alloc (by with_reducible assumption) _⟩ | exact ⟨_, _, Row.alloc (Row.alloc (by with_reducible assumption) _) _⟩) | (with_reducible refine Row.other ?_ (by first | omega | (simp; done) | (simp; omega)) _)))
    have c_b_0_1 := R_b_1.cell 0 rfl
    have c_b_1_1 := R_b_1.cell 1 rfl
    have c_b_2_1 := R_b_1.cell 2 rfl
    have c_b_3_1 := R_b_1.cell 3 rfl
    have c_b_4_1 := R_b_1.cell 4 rfl
    have c_b_5_1 := R_b_1.cell 5 rfl
    have c_b_6_1 := R_b_1.cell 6 rfl
    have c_b_7_1 := R_b_1.cell 7 rfl
    have c_b_8_1 := R_b_1.cell 8 rfl
    have c_b_9_1 := R_b_1.cell 9 rfl
    have l_b_1 := R_b_1.lt
    have HB1 : Below w.heap.size w w1 := by (repeat' (first | (with_reducible exact Below.refl _ _) | (with_reducible assumption) | (with_reducible exact Bw.out (by with_reducible assumption)) | (with_reducible refine bw_alloc ?_ _) | (with_reducible refine bw_step ?_ (by with_reducible assumption)) | (with_reducible refine Below.alloc ?_ ?_ _) | (with_reducible refine Below.drew ?_) | (with_reducible refine below_drewN ?_ _) | (with_reducible refine Below.setCell ?_ ?_ _) | (with_reducible refine below_step ?_ (by with_reducible assumption) ?_) | (with_reducible exact Nat.le_refl _) | omega | (simp; omega) | (simp; done)))
    go_wp2_with fail
    go_ret2
    refine ⟨rfl, ?_⟩
    (repeat' (first | (with_reducible exact Below.refl _ _) | (with_reducible assumption) | (with_reducible exact Bw.out (by with_reducible assumption)) | (with_reducible refine bw_alloc ?_ _) | (with_reducible refine bw_step ?_ (by with_reducible assumption)) | (with_reducible refine Below.alloc ?_ ?_ _) | (with_reducible refine Below.drew ?_) | (with_reducible refine below_drewN ?_ _) | (with_reducible refine Below.setCell ?_ ?_ _) | (with_reducible refine below_step ?_ (by with_reducible assumption) ?_) | (with_reducible exact Nat.le_refl _) | omega | (simp; omega) | (simp; done)))
  | true =>
    have HV := Lib.hid hv
    cases hd : inR day 0 366 with
    | false =>
      obtain rfl : E = 1 := by rw [← HE.out]; simp [heE, hd]
      obtain rfl : V = 0 := by rw [← HVV.out]; unfold heV; rw [HE.out]; rfl
      clear hv
      go_enter Try.func12, Try.ntmps12
      go_wp2_with fail
      refine (r_valid_any B ca cn cc pa pm pc _ (HIN.out.below (by (repeat' (first | (with_reducible exact Below.refl _ _) | (with_reducible assumption) | (with_reducible exact Bw.out (by with_reducible assumption)) | (with_reducible refine bw_alloc ?_ _) | (with_reducible refine bw_step ?_ (by with_reducible assumption)) | (with_reducible refine Below.alloc ?_ ?_ _) | (with_reducible refine Below.drew ?_) | (with_reducible refine below_drewN ?_ _) | (with_reducible refine Below.setCell ?_ ?_ _) | (with_reducible refine below_step ?_ (by with_reducible assumption) ?_) | (with_reducible exact Nat.le_refl _) | omega | (simp; omega) | (simp; done))))) true HV.out).mono ?_
      rintro e w1 ⟨rfl, hb1⟩
      have R_b_1 : Row w1 (w.heap.size) [.int .i64 B.id, .int .i64 B.kind, .int .i64 B.rooms, .int .i64 B.fr, .int .i64 B.un, .slice ca cn cc, .int .i64 B.pn, .int .i64 B.pd, .int .i64 B.fee, .slice pa pm pc] := by (repeat' (first | (with_reducible assumption) | (with_reducible refine Row.new' _ _ _ (by first | rfl | (simp; done) | omega)) | (with_reducible refine Row.alloc ?_ _) | (with_reducible refine Row.drew ?_) | (with_reducible refine Row.drewN ?_ _) | (with_reducible refine Row.step ?_ (by with_reducible assumption)) | (with_reducible refine Row.set2' ?_ _ _; first | exact ⟨_, _, by with_reducible assumption⟩ | exact ⟨_, _, Row.alloc (by with_reducible assumption) _⟩ | exact ⟨_, _, Row.alloc (Row.alloc (by with_reducible assumption) _) _⟩) | (with_reducible refine Row.other ?_ (by first | omega | (simp; done) | (simp; omega)) _)))
      have c_b_0_1 := R_b_1.cell 0 rfl
      have c_b_1_1 := R_b_1.cell 1 rfl
      have c_b_2_1 := R_b_1.cell 2 rfl
      have c_b_3_1 := R_b_1.cell 3 rfl
      have c_b_4_1 := R_b_1.cell 4 rfl
      have c_b_5_1 := R_b_1.cell 5 rfl
      have c_b_6_1 := R_b_1.cell 6 rfl
      have c_b_7_1 := R_b_1.cell 7 rfl
      have c_b_8_1 := R_b_1.cell 8 rfl
      have c_b_9_1 := R_b_1.cell 9 rfl
      have l_b_1 := R_b_1.lt
      have HB1 : Below w.heap.size w w1 := by (repeat' (first | (with_reducible exact Below.refl _ _) | (with_reducible assumption) | (with_reducible exact Bw.out (by with_reducible assumption)) | (with_reducible refine bw_alloc ?_ _) | (with_reducible refine bw_step ?_ (by with_reducible assumption)) | (with_reducible refine Below.alloc ?_ ?_ _) | (with_reducible refine Below.drew ?_) | (with_reducible refine below_drewN ?_ _) | (with_reducible refine Below.setCell ?_ ?_ _) | (with_reducible refine below_step ?_ (by with_reducible assumption) ?_) | (with_reducible exact Nat.le_refl _) | omega | (simp; omega) | (simp; done)))
      go_wp2_with fail
      refine (r_Day day _).mono ?_
      rintro e w' ⟨rfl, rfl⟩
      rw [hd]
      go_wp2_with fail
      go_ret2
      refine ⟨rfl, ?_⟩
      (repeat' (first | (with_reducible exact Below.refl _ _) | (with_reducible assumption) | (with_reducible exact Bw.out (by with_reducible assumption)) | (with_reducible refine bw_alloc ?_ _) | (with_reducible refine bw_step ?_ (by with_reducible assumption)) | (with_reducible refine Below.alloc ?_ ?_ _) | (with_reducible refine Below.drew ?_) | (with_reducible refine below_drewN ?_ _) | (with_reducible refine Below.setCell ?_ ?_ _) | (with_reducible refine below_step ?_ (by with_reducible assumption) ?_) | (with_reducible exact Nat.le_refl _) | omega | (simp; omega) | (simp; done)))
    | true =>
      have ok := blkB_ok hv
      cases hh : hasB B.fr B.un n with
      | false =>
        obtain rfl : E = 4 := by rw [← HE.out]; simp [heE, hv, hd, hh]
        obtain rfl : V = 0 := by rw [← HVV.out]; unfold heV; rw [HE.out]; rfl
        have hor : n < B.fr ∨ (B.fr ≤ n ∧ B.un ≤ n) := by have := hasB_not.1 hh; omega
        clear hv hh
        rcases hor with hq | ⟨hq, hq2⟩
        all_goals
          go_enter Try.func12, Try.ntmps12
          go_wp2_with fail
          refine (r_valid_any B ca cn cc pa pm pc _ (HIN.out.below (by (repeat' (first | (with_reducible exact Below.refl _ _) | (with_reducible assumption) | (with_reducible exact Bw.out (by with_reducible assumption)) | (with_reducible refine bw_alloc ?_ _) | (with_reducible refine bw_step ?_ (by with_reducible assumption)) | (with_reducible refine Below.alloc ?_ ?_ _) | (with_reducible refine Below.drew ?_) | (with_reducible refine below_drewN ?_ _) | (with_reducible refine Below.setCell ?_ ?_ _) | (with_reducible refine below_step ?_ (by with_reducible assumption) ?_) | (with_reducible exact Nat.le_refl _) | omega | (simp; omega) | (simp; done))))) true HV.out).mono ?_
          rintro e w1 ⟨rfl, hb1⟩
          have R_b_1 : Row w1 (w.heap.size) [.int .i64 B.id, .int .i64 B.kind, .int .i64 B.rooms, .int .i64 B.fr, .int .i64 B.un, .slice ca cn cc, .int .i64 B.pn, .int .i64 B.pd, .int .i64 B.fee, .slice pa pm pc] := by (repeat' (first | (with_reducible assumption) | (with_reducible refine Row.new' _ _ _ (by first | rfl | (simp; done) | omega)) | (with_reducible refine Row.alloc ?_ _) | (with_reducible refine Row.drew ?_) | (with_reducible refine Row.drewN ?_ _) | (with_reducible refine Row.step ?_ (by with_reducible assumption)) | (with_reducible refine Row.set2' ?_ _ _; first | exact ⟨_, _, by with_reducible assumption⟩ | exact ⟨_, _, Row.alloc (by with_reducible assumption) _⟩ | exact ⟨_, _, Row.alloc (Row.alloc (by with_reducible assumption) _) _⟩) | (with_reducible refine Row.other ?_ (by first | omega | (simp; done) | (simp; omega)) _)))
          have c_b_0_1 := R_b_1.cell 0 rfl
          have c_b_1_1 := R_b_1.cell 1 rfl
          have c_b_2_1 := R_b_1.cell 2 rfl
          have c_b_3_1 := R_b_1.cell 3 rfl
          have c_b_4_1 := R_b_1.cell 4 rfl
          have c_b_5_1 := R_b_1.cell 5 rfl
          have c_b_6_1 := R_b_1.cell 6 rfl
          have c_b_7_1 := R_b_1.cell 7 rfl
          have c_b_8_1 := R_b_1.cell 8 rfl
          have c_b_9_1 := R_b_1.cell 9 rfl
          have l_b_1 := R_b_1.lt
          have HB1 : Below w.heap.size w w1 := by (repeat' (first | (with_reducible exact Below.refl _ _) | (with_reducible assumption) | (with_reducible exact Bw.out (by with_reducible assumption)) | (with_reducible refine bw_alloc ?_ _) | (with_reducible refine bw_step ?_ (by with_reducible assumption)) | (with_reducible refine Below.alloc ?_ ?_ _) | (with_reducible refine Below.drew ?_) | (with_reducible refine below_drewN ?_ _) | (with_reducible refine Below.setCell ?_ ?_ _) | (with_reducible refine below_step ?_ (by with_reducible assumption) ?_) | (with_reducible exact Nat.le_refl _) | omega | (simp; omega) | (simp; done)))
          go_wp2_with fail
          refine (r_Day day _).mono ?_
          rintro e w' ⟨rfl, rfl⟩
          rw [hd]
          go_wp2_with fail
          go_ret2
          refine ⟨rfl, ?_⟩
          (repeat' (first | (with_reducible exact Below.refl _ _) | (with_reducible assumption) | (with_reducible exact Bw.out (by with_reducible assumption)) | (with_reducible refine bw_alloc ?_ _) | (with_reducible refine bw_step ?_ (by with_reducible assumption)) | (with_reducible refine Below.alloc ?_ ?_ _) | (with_reducible refine Below.drew ?_) | (with_reducible refine below_drewN ?_ _) | (with_reducible refine Below.setCell ?_ ?_ _) | (with_reducible refine below_step ?_ (by with_reducible assumption) ?_) | (with_reducible exact Nat.le_refl _) | omega | (simp; omega) | (simp; done)))
      | true =>
        obtain rfl : E = 0 := by rw [← HE.out]; simp [heE, hv, hd, hh]
        obtain ⟨n1, n2⟩ := hasB_iff.1 hh
        obtain ⟨j, hj⟩ := Int.eq_ofNat_of_zero_le (show 0 ≤ n - B.fr by omega)
        have hjp : j < pm := by have := ok.len; rw [HLP.out] at this; omega
        obtain ⟨z, hz⟩ : ∃ z, B.picked.getD j 0 = z := ⟨_, rfl⟩
        obtain ⟨L, hL⟩ : ∃ L, limI B day = L := ⟨_, rfl⟩
        obtain rfl : V = max L z := by
          rw [← HVV.out]; unfold heV; rw [HE.out, hL, hj, Int.toNat_natCast, hz]; rfl
        obtain ⟨b, off, z', hpa, hbl, cz, gz, _, _⟩ := HIN.out.picked.get hjp
        subst hpa
        obtain rfl : z = z' := hz.symm.trans gz.out
        have Z0 : CellAt w b (off + j) (.int .i64 z) := cz
        have HOK := Lib.hid ok
        have HL := Lib.hid hL
        have j1 : (0 : Int) ≤ (j : Int) := by omega
        have j2 : (j : Int) < (pm : Int) := by omega
        have e1 : n - B.fr = (j : Int) := by omega
        have hn1 : 0 ≤ n := by have := ok.fr; omega
        have hn2 : n ≤ 1000 := by have := ok.un; omega
        have hfr1 := ok.fr
        have hfr2 : B.fr ≤ 366 := by have := ok.lt; have := ok.un; omega
        clear hv ok hz hL hj gz cz hh
        go_enter Try.func12, Try.ntmps12
        go_wp2_with fail
        refine (r_valid_any B ca cn cc (some ⟨b, off, none⟩) pm pc _ (HIN.out.below (by (repeat' (first | (with_reducible exact Below.refl _ _) | (with_reducible assumption) | (with_reducible exact Bw.out (by with_reducible assumption)) | (with_reducible refine bw_alloc ?_ _) | (with_reducible refine bw_step ?_ (by with_reducible assumption)) | (with_reducible refine Below.alloc ?_ ?_ _) | (with_reducible refine Below.drew ?_) | (with_reducible refine below_drewN ?_ _) | (with_reducible refine Below.setCell ?_ ?_ _) | (with_reducible refine below_step ?_ (by with_reducible assumption) ?_) | (with_reducible exact Nat.le_refl _) | omega | (simp; omega) | (simp; done))))) true HV.out).mono ?_
        rintro e w1 ⟨rfl, hb1⟩
        have R_b_1 : Row w1 (w.heap.size) [.int .i64 B.id, .int .i64 B.kind, .int .i64 B.rooms, .int .i64 B.fr, .int .i64 B.un, .slice ca cn cc, .int .i64 B.pn, .int .i64 B.pd, .int .i64 B.fee, .slice (some ⟨b, off, none⟩) pm pc] := by (repeat' (first | (with_reducible assumption) | (with_reducible refine Row.new' _ _ _ (by first | rfl | (simp; done) | omega)) | (with_reducible refine Row.alloc ?_ _) | (with_reducible refine Row.drew ?_) | (with_reducible refine Row.drewN ?_ _) | (with_reducible refine Row.step ?_ (by with_reducible assumption)) | (with_reducible refine Row.set2' ?_ _ _; first | exact ⟨_, _, by with_reducible assumption⟩ | exact ⟨_, _, Row.alloc (by with_reducible assumption) _⟩ | exact ⟨_, _, Row.alloc (Row.alloc (by with_reducible assumption) _) _⟩) | (with_reducible refine Row.other ?_ (by first | omega | (simp; done) | (simp; omega)) _)))
        have c_b_0_1 := R_b_1.cell 0 rfl
        have c_b_1_1 := R_b_1.cell 1 rfl
        have c_b_2_1 := R_b_1.cell 2 rfl
        have c_b_3_1 := R_b_1.cell 3 rfl
        have c_b_4_1 := R_b_1.cell 4 rfl
        have c_b_5_1 := R_b_1.cell 5 rfl
        have c_b_6_1 := R_b_1.cell 6 rfl
        have c_b_7_1 := R_b_1.cell 7 rfl
        have c_b_8_1 := R_b_1.cell 8 rfl
        have c_b_9_1 := R_b_1.cell 9 rfl
        have l_b_1 := R_b_1.lt
        have HB1 : Below w.heap.size w w1 := by (repeat' (first | (with_reducible exact Below.refl _ _) | (with_reducible assumption) | (with_reducible exact Bw.out (by with_reducible assumption)) | (with_reducible refine bw_alloc ?_ _) | (with_reducible refine bw_step ?_ (by with_reducible assumption)) | (with_reducible refine Below.alloc ?_ ?_ _) | (with_reducible refine Below.drew ?_) | (with_reducible refine below_drewN ?_ _) | (with_reducible refine Below.setCell ?_ ?_ _) | (with_reducible refine below_step ?_ (by with_reducible assumption) ?_) | (with_reducible exact Nat.le_refl _) | omega | (simp; omega) | (simp; done)))
        go_wp2_with fail
        refine (r_Day day _).mono ?_
        rintro e w' ⟨rfl, rfl⟩
        rw [hd]
        have Z1 : CellAt w1 b (off + j) (.int .i64 z) := Z0.step HB1
        have e2 : IntKind.i64.wrap (j : Int) = (j : Int) := IntWalk.i64_in _ (by omega)
        go_wp2_with fail
        refine AnyJ.beginP (fun w' : World => w'.cell? ⟨w.heap.size, 0, none⟩ = some (.int .i64 B.id) ∧ w'.cell? ⟨w.heap.size, 1, none⟩ = some (.int .i64 B.kind) ∧ w'.cell? ⟨w.heap.size, 2, none⟩ = some (.int .i64 B.rooms) ∧ w'.cell? ⟨w.heap.size, 3, none⟩ = some (.int .i64 B.fr) ∧ w'.cell? ⟨w.heap.size, 4, none⟩ = some (.int .i64 B.un) ∧ w'.cell? ⟨w.heap.size, 5, none⟩ = some (.slice ca cn cc) ∧ w'.cell? ⟨w.heap.size, 6, none⟩ = some (.int .i64 B.pn) ∧ w'.cell? ⟨w.heap.size, 7, none⟩ = some (.int .i64 B.pd) ∧ w'.cell? ⟨w.heap.size, 8, none⟩ = some (.int .i64 B.fee) ∧ w'.cell? ⟨w.heap.size, 9, none⟩ = some (.slice (some ⟨b, off, none⟩) pm pc) ∧ w'.cell? ⟨b, off + j, none⟩ = some (.int .i64 z)) (fun _ => true) (by kernel_rfl) ?_ (fun hS1 => ?_)
        · exact (show ∀ (P S : World → Prop) (W : World), P W → (∀ w', P w' → S w') → S W from fun P S W h f => f W h) (fun w' : World => Row w' (w.heap.size) [.int .i64 B.id, .int .i64 B.kind, .int .i64 B.rooms, .int .i64 B.fr, .int .i64 B.un, .slice ca cn cc, .int .i64 B.pn, .int .i64 B.pd, .int .i64 B.fee, .slice (some ⟨b, off, none⟩) pm pc] ∧ w'.cell? ⟨b, off + j, none⟩ = some (.int .i64 z)) (fun w' : World => w'.cell? ⟨w.heap.size, 0, none⟩ = some (.int .i64 B.id) ∧ w'.cell? ⟨w.heap.size, 1, none⟩ = some (.int .i64 B.kind) ∧ w'.cell? ⟨w.heap.size, 2, none⟩ = some (.int .i64 B.rooms) ∧ w'.cell? ⟨w.heap.size, 3, none⟩ = some (.int .i64 B.fr) ∧ w'.cell? ⟨w.heap.size, 4, none⟩ = some (.int .i64 B.un) ∧ w'.cell? ⟨w.heap.size, 5, none⟩ = some (.slice ca cn cc) ∧ w'.cell? ⟨w.heap.size, 6, none⟩ = some (.int .i64 B.pn) ∧ w'.cell? ⟨w.heap.size, 7, none⟩ = some (.int .i64 B.pd) ∧ w'.cell? ⟨w.heap.size, 8, none⟩ = some (.int .i64 B.fee) ∧ w'.cell? ⟨w.heap.size, 9, none⟩ = some (.slice (some ⟨b, off, none⟩) pm pc) ∧ w'.cell? ⟨b, off + j, none⟩ = some (.int .i64 z)) _ (⟨by (repeat' (first | (with_reducible assumption) | (with_reducible refine Row.new' _ _ _ (by first | rfl | (simp; done) | omega)) | (with_reducible refine Row.alloc ?_ _) | (with_reducible refine Row.drew ?_) | (with_reducible refine Row.drewN ?_ _) | (with_reducible refine Row.step ?_ (by with_reducible assumption)) | (with_reducible refine Row.set2' ?_ _ _; first | exact ⟨_, _, by with_reducible assumption⟩ | exact ⟨_, _, Row.alloc (by with_reducible assumption) _⟩ | exact ⟨_, _, Row.alloc (Row.alloc (by with_reducible assumption) _) _⟩) | (with_reducible refine Row.other ?_ (by first | omega | (simp; done) | (simp; omega)) _))), CellAt.out (by (repeat' (first | (with_reducible assumption) | (with_reducible refine CellAt.drew ?_) | (with_reducible refine CellAt.drewN ?_ _) | (with_reducible refine CellAt.alloc ?_ _) | (with_reducible refine CellAt.step ?_ (by with_reducible assumption)))))⟩) (fun w' ⟨hP0, hF0⟩ => ⟨hP0.cell 0 rfl, hP0.cell 1 rfl, hP0.cell 2 rfl, hP0.cell 3 rfl, hP0.cell 4 rfl, hP0.cell 5 rfl, hP0.cell 6 rfl, hP0.cell 7 rfl, hP0.cell 8 rfl, hP0.cell 9 rfl, hF0⟩)
        refine AnyJ.takeD (i := 0) (d := some 28) (v := ?_) rfl (by kernel_rfl) (by kernel_rfl) (by kernel_rfl) (by kernel_rfl) (by kernel_rfl) (fun _ _ _ h => h) (Or.inl ⟨by kernel_rfl, ?_⟩) hS1 ?_
        rotate_left
        · intro w' hS
          obtain ⟨sF0, sF1, sF2, sF3, sF4, sF5, sF6, sF7, sF8, sF9, sF10⟩ := hS
          go_simp
          try with_reducible rfl
        refine AnyJ.takeD (i := 1) (d := some 29) (v := ?_) rfl (by kernel_rfl) (by kernel_rfl) (by kernel_rfl) (by kernel_rfl) (by kernel_rfl) (fun _ _ _ h => h) (Or.inl ⟨by kernel_rfl, ?_⟩) hS1 ?_
        rotate_left
        · intro w' hS
          clear hS
          go_simp
          try with_reducible rfl
        refine AnyJ.takeD (i := 3) (d := some 31) (v := ?_) rfl (by kernel_rfl) (by kernel_rfl) (by kernel_rfl) (by kernel_rfl) (by kernel_rfl) (fun _ _ _ h => h) (Or.inl ⟨by kernel_rfl, ?_⟩) hS1 ?_
        rotate_left
        · intro w' hS
          clear hS
          go_simp
          try with_reducible rfl
        refine AnyJ.takeD (i := 4) (d := some 32) (v := ?_) rfl (by kernel_rfl) (by kernel_rfl) (by kernel_rfl) (by kernel_rfl) (by kernel_rfl) (fun _ _ _ h => h) (Or.inl ⟨by kernel_rfl, ?_⟩) hS1 ?_
        rotate_left
        · intro w' hS
          obtain ⟨sF0, sF1, sF2, sF3, sF4, sF5, sF6, sF7, sF8, sF9, sF10⟩ := hS
          go_simp
          try with_reducible rfl
        refine AnyJ.takeD (i := 5) (d := some 33) (v := ?_) rfl (by kernel_rfl) (by kernel_rfl) (by kernel_rfl) (by kernel_rfl) (by kernel_rfl) (fun _ _ _ h => h) (Or.inl ⟨by kernel_rfl, ?_⟩) hS1 ?_
        rotate_left
        · intro w' hS
          clear hS
          go_simp
          try with_reducible rfl
        refine AnyJ.takeD (i := 6) (d := some 34) (v := ?_) rfl (by kernel_rfl) (by kernel_rfl) (by kernel_rfl) (by kernel_rfl) (by kernel_rfl) (fun _ _ _ h => h) (Or.inl ⟨by kernel_rfl, ?_⟩) hS1 ?_
        rotate_left
        · intro w' hS
          clear hS
          go_simp
          try with_reducible rfl
        refine AnyJ.takeD (i := 7) (d := some 35) (v := ?_) rfl (by kernel_rfl) (by kernel_rfl) (by kernel_rfl) (by kernel_rfl) (by kernel_rfl) (fun _ _ _ h => h) (Or.inl ⟨by kernel_rfl, ?_⟩) hS1 ?_
        rotate_left
        · intro w' hS
          clear hS
          go_simp
          try with_reducible rfl
        refine AnyJ.takeD (i := 8) (d := some 36) (v := ?_) rfl (by kernel_rfl) (by kernel_rfl) (by kernel_rfl) (by kernel_rfl) (by kernel_rfl) (fun _ _ _ h => h) (Or.inl ⟨by kernel_rfl, ?_⟩) hS1 ?_
        rotate_left
        · intro w' hS
          obtain ⟨sF0, sF1, sF2, sF3, sF4, sF5, sF6, sF7, sF8, sF9, sF10⟩ := hS
          go_simp
          try with_reducible rfl
        refine AnyJ.takeD (i := 9) (d := some 37) (v := ?_) rfl (by kernel_rfl) (by kernel_rfl) (by kernel_rfl) (by kernel_rfl) (by kernel_rfl) (fun _ _ _ h => h) (Or.inl ⟨by kernel_rfl, ?_⟩) hS1 ?_
        rotate_left
        · intro w' hS
          clear hS
          go_simp
          try with_reducible rfl
        refine AnyJ.takeD (i := 10) (d := some 38) (v := ?_) rfl (by kernel_rfl) (by kernel_rfl) (by kernel_rfl) (by kernel_rfl) (by kernel_rfl) (fun _ _ _ h => h) (Or.inl ⟨by kernel_rfl, ?_⟩) hS1 ?_
        rotate_left
        · intro w' hS
          clear hS
          go_simp
          try with_reducible rfl
        refine AnyJ.takeD (i := 11) (d := some 39) (v := ?_) rfl (by kernel_rfl) (by kernel_rfl) (by kernel_rfl) (by kernel_rfl) (by kernel_rfl) (fun _ _ _ h => h) (Or.inl ⟨by kernel_rfl, ?_⟩) hS1 ?_
        rotate_left
        · intro w' hS
          obtain ⟨sF0, sF1, sF2, sF3, sF4, sF5, sF6, sF7, sF8, sF9, sF10⟩ := hS
          go_simp
          try with_reducible rfl
        refine AnyJ.one (i := 2) (by kernel_rfl) rfl (fun Kz hKz => ?_)
        go_simp
        refine (r_limit B day L ca cn cc (some ⟨b, off, none⟩) pm pc _ (HIN.out.below (by (repeat' (first | (with_reducible exact Below.refl _ _) | (with_reducible assumption) | (with_reducible exact Bw.out (by with_reducible assumption)) | (with_reducible refine bw_alloc ?_ _) | (with_reducible refine bw_step ?_ (by with_reducible assumption)) | (with_reducible refine Below.alloc ?_ ?_ _) | (with_reducible refine Below.drew ?_) | (with_reducible refine below_drewN ?_ _) | (with_reducible refine Below.setCell ?_ ?_ _) | (with_reducible refine below_step ?_ (by with_reducible assumption) ?_) | (with_reducible exact Nat.le_refl _) | omega | (simp; omega) | (simp; done))))) HOK.out HL.out).mono ?_
        rintro e w2 ⟨rfl, hb2⟩
        have R_b_2 : Row w2 (w.heap.size) [.int .i64 B.id, .int .i64 B.kind, .int .i64 B.rooms, .int .i64 B.fr, .int .i64 B.un, .slice ca cn cc, .int .i64 B.pn, .int .i64 B.pd, .int .i64 B.fee, .slice (some ⟨b, off, none⟩) pm pc] := by (repeat' (first | (with_reducible assumption) | (with_reducible refine Row.new' _ _ _ (by first | rfl | (simp; done) | omega)) | (with_reducible refine Row.alloc ?_ _) | (with_reducible refine Row.drew ?_) | (with_reducible refine Row.drewN ?_ _) | (with_reducible refine Row.step ?_ (by with_reducible assumption)) | (with_reducible refine Row.set2' ?_ _ _; first | exact ⟨_, _, by with_reducible assumption⟩ | exact ⟨_, _, Row.alloc (by with_reducible assumption) _⟩ | exact ⟨_, _, Row.alloc (Row.alloc (by with_reducible assumption) _) _⟩) | (with_reducible refine Row.other ?_ (by first | omega | (simp; done) | (simp; omega)) _)))
        have c_b_0_2 := R_b_2.cell 0 rfl
        have c_b_1_2 := R_b_2.cell 1 rfl
        have c_b_2_2 := R_b_2.cell 2 rfl
        have c_b_3_2 := R_b_2.cell 3 rfl
        have c_b_4_2 := R_b_2.cell 4 rfl
        have c_b_5_2 := R_b_2.cell 5 rfl
        have c_b_6_2 := R_b_2.cell 6 rfl
        have c_b_7_2 := R_b_2.cell 7 rfl
        have c_b_8_2 := R_b_2.cell 8 rfl
        have c_b_9_2 := R_b_2.cell 9 rfl
        have l_b_2 := R_b_2.lt
        have HB2 : Below w.heap.size w w2 := by (repeat' (first | (with_reducible exact Below.refl _ _) | (with_reducible assumption) | (with_reducible exact Bw.out (by with_reducible assumption)) | (with_reducible refine bw_alloc ?_ _) | (with_reducible refine bw_step ?_ (by with_reducible assumption)) | (with_reducible refine Below.alloc ?_ ?_ _) | (with_reducible refine Below.drew ?_) | (with_reducible refine below_drewN ?_ _) | (with_reducible refine Below.setCell ?_ ?_ _) | (with_reducible refine below_step ?_ (by with_reducible assumption) ?_) | (with_reducible exact Nat.le_refl _) | omega | (simp; omega) | (simp; done)))
        obtain ⟨sF0, sF1, sF2, sF3, sF4, sF5, sF6, sF7, sF8, sF9, sF10⟩ := hS1
        have hS2 : (fun w' : World => w'.cell? ⟨w.heap.size, 0, none⟩ = some (.int .i64 B.id) ∧ w'.cell? ⟨w.heap.size, 1, none⟩ = some (.int .i64 B.kind) ∧ w'.cell? ⟨w.heap.size, 2, none⟩ = some (.int .i64 B.rooms) ∧ w'.cell? ⟨w.heap.size, 3, none⟩ = some (.int .i64 B.fr) ∧ w'.cell? ⟨w.heap.size, 4, none⟩ = some (.int .i64 B.un) ∧ w'.cell? ⟨w.heap.size, 5, none⟩ = some (.slice ca cn cc) ∧ w'.cell? ⟨w.heap.size, 6, none⟩ = some (.int .i64 B.pn) ∧ w'.cell? ⟨w.heap.size, 7, none⟩ = some (.int .i64 B.pd) ∧ w'.cell? ⟨w.heap.size, 8, none⟩ = some (.int .i64 B.fee) ∧ w'.cell? ⟨w.heap.size, 9, none⟩ = some (.slice (some ⟨b, off, none⟩) pm pc) ∧ w'.cell? ⟨b, off + j, none⟩ = some (.int .i64 z)) w2 := ⟨c_b_0_2, c_b_1_2, c_b_2_2, c_b_3_2, c_b_4_2, c_b_5_2, c_b_6_2, c_b_7_2, c_b_8_2, c_b_9_2, (by first | exact (CellAt.step sF10 (by (repeat' (first | (with_reducible exact Below.refl _ _) | (with_reducible assumption) | (with_reducible exact Bw.out (by with_reducible assumption)) | (with_reducible refine bw_alloc ?_ _) | (with_reducible refine bw_step ?_ (by with_reducible assumption)) | (with_reducible refine Below.alloc ?_ ?_ _) | (with_reducible refine Below.drew ?_) | (with_reducible refine below_drewN ?_ _) | (with_reducible refine Below.setCell ?_ ?_ _) | (with_reducible refine below_step ?_ (by with_reducible assumption) ?_) | (with_reducible exact Nat.le_refl _) | omega | (simp; omega) | (simp; done))))).out | exact SlC.step sF10 (by (repeat' (first | (with_reducible exact Below.refl _ _) | (with_reducible assumption) | (with_reducible exact Bw.out (by with_reducible assumption)) | (with_reducible refine bw_alloc ?_ _) | (with_reducible refine bw_step ?_ (by with_reducible assumption)) | (with_reducible refine Below.alloc ?_ ?_ _) | (with_reducible refine Below.drew ?_) | (with_reducible refine below_drewN ?_ _) | (with_reducible refine Below.setCell ?_ ?_ _) | (with_reducible refine below_step ?_ (by with_reducible assumption) ?_) | (with_reducible exact Nat.le_refl _) | omega | (simp; omega) | (simp; done)))))⟩
        clear sF0 sF1 sF2 sF3 sF4 sF5 sF6 sF7 sF8 sF9 sF10
        refine hKz _ _ (fun _ => hS2) ?_
        clear hKz Kz
        clear R_b_1 c_b_0_1 c_b_1_1 c_b_2_1 c_b_3_1 c_b_4_1 c_b_5_1 c_b_6_1 c_b_7_1 c_b_8_1 c_b_9_1 hb1 HB1
        refine AnyJ.takeD (i := 12) (d := some 40) (v := ?_) rfl (by kernel_rfl) (by kernel_rfl) (by kernel_rfl) (by kernel_rfl) (by kernel_rfl) (fun _ _ _ h => h) (Or.inl ⟨by kernel_rfl, ?_⟩) hS2 ?_
        rotate_left
        · intro w' hS
          clear hS
          go_simp
          try with_reducible rfl
        refine AnyJ.takeD (i := 13) (d := some 6) (v := ?_) rfl (by kernel_rfl) (by kernel_rfl) (by kernel_rfl) (by kernel_rfl) (by kernel_rfl) (fun _ _ _ h => h) (Or.inl ⟨by kernel_rfl, ?_⟩) hS2 ?_
        rotate_left
        · intro w' hS
          clear hS
          go_simp
          try with_reducible rfl
        refine AnyJ.takeD (i := 14) (d := some 7) (v := ?_) rfl (by kernel_rfl) (by kernel_rfl) (by kernel_rfl) (by kernel_rfl) (by kernel_rfl) (fun _ _ _ h => h) (Or.inl ⟨by kernel_rfl, ?_⟩) hS2 ?_
        rotate_left
        · intro w' hS
          clear hS
          go_simp
          try with_reducible rfl
        refine AnyJ.done (by kernel_rfl) ?_ _
        clear hS2
        simp only [Act.put, List.setIfInBounds_toArray, List.set_cons_zero, List.set_cons_succ]
        go_wp2_with fail
        all_goals
          go_ret2
          refine ⟨ret2_int (by omega) rfl, ?_⟩
          (repeat' (first | (with_reducible exact Below.refl _ _) | (with_reducible assumption) | (with_reducible exact Bw.out (by with_reducible assumption)) | (with_reducible refine bw_alloc ?_ _) | (with_reducible refine bw_step ?_ (by with_reducible assumption)) | (with_reducible refine Below.alloc ?_ ?_ _) | (with_reducible refine Below.drew ?_) | (with_reducible refine below_drewN ?_ _) | (with_reducible refine Below.setCell ?_ ?_ _) | (with_reducible refine below_step ?_ (by with_reducible assumption) ?_) | (with_reducible exact Nat.le_refl _) | omega | (simp; omega) | (simp; done)))

end Go.Proofs.Ytjmlkdopbiedaaa
