/-
  GroupFees: the fee is Fee for each room night that is pledged and not used; with a room night more it is less by Fee, or 0 before and after; if all rooms are picked up, it is 0.
  No condition: for every input.
-/
import Derived.Test.YtjmlkdopbiedaaaGFeP
import Derived.Test.YtjmlkdopbiedaaaRowN
import Derived.Test.YtjmlkdopbiedaaaGrpW
import Derived.Test.YtjmlkdopbiedaaaHeldQ
import Derived.Deep.DeepCutAuto
namespace Go.Proofs.Ytjmlkdopbiedaaa
set_option linter.unusedSimpArgs false
set_option linter.unusedVariables false
open Go.ChangeShapes Go.WideShapes Go.ChangeAt Go.RowKit

theorem SlI.cellOf {w : World} {b off n : Nat} {zs : List Int} (h : SlI w (some ⟨b, off, none⟩) n zs) {i : Nat} (hi : i < n) : CellAt w b (off + i) (.int .i64 (zs.getD i 0)) := by
  obtain ⟨b', off', e, hc⟩ := h.2 i hi
  cases e
  exact hc
theorem g_Fee_with (B : Blk) (zs : List Int) (ca : Option Addr) (cn cc : Nat) (pa : Option Addr) (pm pc : Nat) (w : World) (hin : BlkIn w (withB B zs) ca cn cc pa pm pc) (V E : Int) (hV : feV (withB B zs) = V) (hE : feE (withB B zs) = E) :
    Calls Try.prog 18 #[.agg #[.int .i64 B.id, .int .i64 B.kind, .int .i64 B.rooms, .int .i64 B.fr, .int .i64 B.un, .slice ca cn cc, .int .i64 B.pn, .int .i64 B.pd, .int .i64 B.fee, .slice pa pm pc]] w fun e w' => e = .returned (.tuple #[.int .i64 V, .int .i64 E]) ∧ Below w.heap.size w w' :=
  g_Fee_any (withB B zs) ca cn cc pa pm pc w hin V E hV hE
theorem BlkIn.own {w : World} {B : Blk} {ca : Option Addr} {cn cc : Nat} {pa : Option Addr} {pm pc : Nat} (h : BlkIn w B ca cn cc pa pm pc) {w' : World} {zs : List Int} {g n c : Nat} (hb : Below w.heap.size w w') (ho : OwnI w' g zs) (hl : zs.length = n) (h1 : n ≤ c) (h2 : c ≤ maxLen) :
    BlkIn w' (withB B zs) ca cn cc (some ⟨g, 0, none⟩) n c :=
  ⟨h.cuts.below hb, ho.sl hl, h.ccap, h1, by unfold maxLen at h2; omega⟩

set_option maxRecDepth 100000 in
set_option maxHeartbeats 12800000 in
theorem gfee_walk (B : Blk) (ca : Option Addr) (cn cc : Nat) (pa : Option Addr) (pm pc : Nat) (q : Int) (_ : BlkWf B) (wq : (Lit.int .u16 q).wf = true) (w : World) (K : BlkIn w B ca cn cc pa pm pc) :
    Calls Try.prog 8 #[.agg #[.int .i64 B.id, .int .i64 B.kind, .int .i64 B.rooms, .int .i64 B.fr, .int .i64 B.un, .slice ca cn cc, .int .i64 B.pn, .int .i64 B.pd, .int .i64 B.fee, .slice pa pm pc], .int .u16 q] w fun e w' => e = .returned (.bool true) ∧ Below w.heap.size w w' := by
  have hq := bd_u16 wq
  clear wq
  obtain ⟨fb, hf⟩ : ∃ fb, (decide (cn ≤ 40) && decide (pm ≤ 400)) = fb := ⟨_, rfl⟩
  have HF := Lib.hid hf
  clear hf
  have K0 := Lib.hid K
  cases fb with
  | false =>
    clear K
    go_enter Try.func8, Try.ntmps8
    go_wp2_with fail
    refine (head_any _).mono ?_
    rintro e w1 ⟨rfl, hb1⟩
    have R_b_1 : Row w1 (w.heap.size) [.int .i64 B.id, .int .i64 B.kind, .int .i64 B.rooms, .int .i64 B.fr, .int .i64 B.un, .slice ca cn cc, .int .i64 B.pn, .int .i64 B.pd, .int .i64 B.fee, .slice pa pm pc] := by (repeat' (first | (with_reducible assumption) | (with_reducible refine Row.new' _ _ _ (by first | rfl | (simp; done) | omega)) | (with_reducible refine Row.alloc ?_ _) | (with_reducible refine Row.drew ?_) | (with_reducible refine Row.drewN ?_ _) | (with_reducible refine Row.step ?_ (by with_reducible assumption)) | (with_reducible refine Row.set2' ?_ _ _; first | exact ⟨_, _, by with_reducible assumption⟩ | exact ⟨_, _, Row.alloc (by with_reducible assumption) _⟩ | exact ⟨_, _, Row.alloc (Row.alloc (by with_reducible assumption) _) _⟩) | (with_reducible refine Row.other ?_ (by first | omega | (simp; done) | (simp; omega)) _)))
    have c_b_0_1 := R_b_1.cell 0 rfl
    have c_b_1_1 := R_b_1.cell 1 rfl
    have c_b_2_1 := R_b_1.cell 2 rfl
    have c_b_3_1 := R_b_1.cell 3 rfl
    have c_b_4_1 := R_b_1.cell 4 rfl
    have c_b_5_1 := R_b_1.cell 5 rfl
    have c_b_6_1 := R_b_1.cell 6 rfl
    have c_b_7_1 := R_b_1.cell 7 rfl
    have c_b_8_1 := R_b_1.cell 8 rfl
    have c_b_9_1 := R_b_1.cell 9 rfl
    have l_b_1 := R_b_1.lt
    have HB1 : Below w.heap.size w w1 := by (repeat' (first | (with_reducible exact Below.refl _ _) | (with_reducible assumption) | (with_reducible exact Bw.out (by with_reducible assumption)) | (with_reducible refine bw_alloc ?_ _) | (with_reducible refine bw_step ?_ (by with_reducible assumption)) | (with_reducible refine Below.alloc ?_ ?_ _) | (with_reducible refine Below.drew ?_) | (with_reducible refine below_drewN ?_ _) | (with_reducible refine Below.setCell ?_ ?_ _) | (with_reducible refine below_step ?_ (by with_reducible assumption) ?_) | (with_reducible exact Nat.le_refl _) | omega | (simp; omega) | (simp; done)))
    go_wp2_with fail
    refine (r_few B ca cn cc pa pm pc false _ HF.out).mono ?_
    rintro e w2 ⟨rfl, hb2⟩
    have R_b_2 : Row w2 (w.heap.size) [.int .i64 B.id, .int .i64 B.kind, .int .i64 B.rooms, .int .i64 B.fr, .int .i64 B.un, .slice ca cn cc, .int .i64 B.pn, .int .i64 B.pd, .int .i64 B.fee, .slice pa pm pc] := by (repeat' (first | (with_reducible assumption) | (with_reducible refine Row.new' _ _ _ (by first | rfl | (simp; done) | omega)) | (with_reducible refine Row.alloc ?_ _) | (with_reducible refine Row.drew ?_) | (with_reducible refine Row.drewN ?_ _) | (with_reducible refine Row.step ?_ (by with_reducible assumption)) | (with_reducible refine Row.set2' ?_ _ _; first | exact ⟨_, _, by with_reducible assumption⟩ | exact ⟨_, _, Row.alloc (by with_reducible assumption) _⟩ | exact ⟨_, _, Row.alloc (Row.alloc (by with_reducible assumption) _) _⟩) | (with_reducible refine Row.other ?_ (by first | omega | (simp; done) | (simp; omega)) _)))
    have c_b_0_2 := R_b_2.cell 0 rfl
    have c_b_1_2 := R_b_2.cell 1 rfl
    have c_b_2_2 := R_b_2.cell 2 rfl
    have c_b_3_2 := R_b_2.cell 3 rfl
    have c_b_4_2 := R_b_2.cell 4 rfl
    have c_b_5_2 := R_b_2.cell 5 rfl
    have c_b_6_2 := R_b_2.cell 6 rfl
    have c_b_7_2 := R_b_2.cell 7 rfl
    have c_b_8_2 := R_b_2.cell 8 rfl
    have c_b_9_2 := R_b_2.cell 9 rfl
    have l_b_2 := R_b_2.lt
    have HB2 : Below w.heap.size w w2 := by (repeat' (first | (with_reducible exact Below.refl _ _) | (with_reducible assumption) | (with_reducible exact Bw.out (by with_reducible assumption)) | (with_reducible refine bw_alloc ?_ _) | (with_reducible refine bw_step ?_ (by with_reducible assumption)) | (with_reducible refine Below.alloc ?_ ?_ _) | (with_reducible refine Below.drew ?_) | (with_reducible refine below_drewN ?_ _) | (with_reducible refine Below.setCell ?_ ?_ _) | (with_reducible refine below_step ?_ (by with_reducible assumption) ?_) | (with_reducible exact Nat.le_refl _) | omega | (simp; omega) | (simp; done)))
    clear R_b_1 c_b_0_1 c_b_1_1 c_b_2_1 c_b_3_1 c_b_4_1 c_b_5_1 c_b_6_1 c_b_7_1 c_b_8_1 c_b_9_1 hb1 HB1
    go_wp2_with fail
    go_ret
    refine ⟨(by first | rfl | exact ret_bool (by first | rfl | (simp; done) | (simp; omega))), ?_⟩
    (repeat' (first | (with_reducible exact Below.refl _ _) | (with_reducible assumption) | (with_reducible exact Bw.out (by with_reducible assumption)) | (with_reducible refine bw_alloc ?_ _) | (with_reducible refine bw_step ?_ (by with_reducible assumption)) | (with_reducible refine Below.alloc ?_ ?_ _) | (with_reducible refine Below.drew ?_) | (with_reducible refine below_drewN ?_ _) | (with_reducible refine Below.setCell ?_ ?_ _) | (with_reducible refine below_step ?_ (by with_reducible assumption) ?_) | (with_reducible exact Nat.le_refl _) | omega | (simp; omega) | (simp; done)))
  | true =>
    cases hv : blkB B with
    | false =>
      have HV := Lib.hid hv
      clear K hv
      go_enter Try.func8, Try.ntmps8
      go_wp2_with fail
      refine (head_any _).mono ?_
      rintro e w1 ⟨rfl, hb1⟩
      have R_b_1 : Row w1 (w.heap.size) [.int .i64 B.id, .int .i64 B.kind, .int .i64 B.rooms, .int .i64 B.fr, .int .i64 B.un, .slice ca cn cc, .int .i64 B.pn, .int .i64 B.pd, .int .i64 B.fee, .slice pa pm pc] := by (repeat' (first | (with_reducible assumption) | (with_reducible refine Row.new' _ _ _ (by first | rfl | (simp; done) | omega)) | (with_reducible refine Row.alloc ?_ _) | (with_reducible refine Row.drew ?_) | (with_reducible refine Row.drewN ?_ _) | (with_reducible refine Row.step ?_ (by with_reducible assumption)) | (with_reducible refine Row.set2' ?_ _ _; first | exact ⟨_, _, by with_reducible assumption⟩ | exact ⟨_, _, Row.alloc (by with_reducible assumption) _⟩ | exact ⟨_, _, Row.alloc (Row.alloc (by with_reducible assumption) _) _⟩) | (with_reducible refine Row.other ?_ (by first | omega | (simp; done) | (simp; omega)) _)))
      have c_b_0_1 := R_b_1.cell 0 rfl
      have c_b_1_1 := R_b_1.cell 1 rfl
      have c_b_2_1 := R_b_1.cell 2 rfl
      have c_b_3_1 := R_b_1.cell 3 rfl
      have c_b_4_1 := R_b_1.cell 4 rfl
      have c_b_5_1 := R_b_1.cell 5 rfl
      have c_b_6_1 := R_b_1.cell 6 rfl
      have c_b_7_1 := R_b_1.cell 7 rfl
      have c_b_8_1 := R_b_1.cell 8 rfl
      have c_b_9_1 := R_b_1.cell 9 rfl
      have l_b_1 := R_b_1.lt
      have HB1 : Below w.heap.size w w1 := by (repeat' (first | (with_reducible exact Below.refl _ _) | (with_reducible assumption) | (with_reducible exact Bw.out (by with_reducible assumption)) | (with_reducible refine bw_alloc ?_ _) | (with_reducible refine bw_step ?_ (by with_reducible assumption)) | (with_reducible refine Below.alloc ?_ ?_ _) | (with_reducible refine Below.drew ?_) | (with_reducible refine below_drewN ?_ _) | (with_reducible refine Below.setCell ?_ ?_ _) | (with_reducible refine below_step ?_ (by with_reducible assumption) ?_) | (with_reducible exact Nat.le_refl _) | omega | (simp; omega) | (simp; done)))
      go_wp2_with fail
      refine (r_few B ca cn cc pa pm pc true _ HF.out).mono ?_
      rintro e w2 ⟨rfl, hb2⟩
      have R_b_2 : Row w2 (w.heap.size) [.int .i64 B.id, .int .i64 B.kind, .int .i64 B.rooms, .int .i64 B.fr, .int .i64 B.un, .slice ca cn cc, .int .i64 B.pn, .int .i64 B.pd, .int .i64 B.fee, .slice pa pm pc] := by (repeat' (first | (with_reducible assumption) | (with_reducible refine Row.new' _ _ _ (by first | rfl | (simp; done) | omega)) | (with_reducible refine Row.alloc ?_ _) | (with_reducible refine Row.drew ?_) | (with_reducible refine Row.drewN ?_ _) | (with_reducible refine Row.step ?_ (by with_reducible assumption)) | (with_reducible refine Row.set2' ?_ _ _; first | exact ⟨_, _, by with_reducible assumption⟩ | exact ⟨_, _, Row.alloc (by with_reducible assumption) _⟩ | exact ⟨_, _, Row.alloc (Row.alloc (by with_reducible assumption) _) _⟩) | (with_reducible refine Row.other ?_ (by first | omega | (simp; done) | (simp; omega)) _)))
      have c_b_0_2 := R_b_2.cell 0 rfl
      have c_b_1_2 := R_b_2.cell 1 rfl
      have c_b_2_2 := R_b_2.cell 2 rfl
      have c_b_3_2 := R_b_2.cell 3 rfl
      have c_b_4_2 := R_b_2.cell 4 rfl
      have c_b_5_2 := R_b_2.cell 5 rfl
      have c_b_6_2 := R_b_2.cell 6 rfl
      have c_b_7_2 := R_b_2.cell 7 rfl
      have c_b_8_2 := R_b_2.cell 8 rfl
      have c_b_9_2 := R_b_2.cell 9 rfl
      have l_b_2 := R_b_2.lt
      have HB2 : Below w.heap.size w w2 := by (repeat' (first | (with_reducible exact Below.refl _ _) | (with_reducible assumption) | (with_reducible exact Bw.out (by with_reducible assumption)) | (with_reducible refine bw_alloc ?_ _) | (with_reducible refine bw_step ?_ (by with_reducible assumption)) | (with_reducible refine Below.alloc ?_ ?_ _) | (with_reducible refine Below.drew ?_) | (with_reducible refine below_drewN ?_ _) | (with_reducible refine Below.setCell ?_ ?_ _) | (with_reducible refine below_step ?_ (by with_reducible assumption) ?_) | (with_reducible exact Nat.le_refl _) | omega | (simp; omega) | (simp; done)))
      clear R_b_1 c_b_0_1 c_b_1_1 c_b_2_1 c_b_3_1 c_b_4_1 c_b_5_1 c_b_6_1 c_b_7_1 c_b_8_1 c_b_9_1 hb1 HB1
      go_wp2_with fail
      refine (r_valid_any B ca cn cc pa pm pc _ (K0.out.below (by (repeat' (first | (with_reducible exact Below.refl _ _) | (with_reducible assumption) | (with_reducible exact Bw.out (by with_reducible assumption)) | (with_reducible refine bw_alloc ?_ _) | (with_reducible refine bw_step ?_ (by with_reducible assumption)) | (with_reducible refine Below.alloc ?_ ?_ _) | (with_reducible refine Below.drew ?_) | (with_reducible refine below_drewN ?_ _) | (with_reducible refine Below.setCell ?_ ?_ _) | (with_reducible refine below_step ?_ (by with_reducible assumption) ?_) | (with_reducible exact Nat.le_refl _) | omega | (simp; omega) | (simp; done))))) false HV.out).mono ?_
      rintro e w3 ⟨rfl, hb3⟩
      have R_b_3 : Row w3 (w.heap.size) [.int .i64 B.id, .int .i64 B.kind, .int .i64 B.rooms, .int .i64 B.fr, .int .i64 B.un, .slice ca cn cc, .int .i64 B.pn, .int .i64 B.pd, .int .i64 B.fee, .slice pa pm pc] := by (repeat' (first | (with_reducible assumption) | (with_reducible refine Row.new' _ _ _ (by first | rfl | (simp; done) | omega)) | (with_reducible refine Row.alloc ?_ _) | (with_reducible refine Row.drew ?_) | (with_reducible refine Row.drewN ?_ _) | (with_reducible refine Row.step ?_ (by with_reducible assumption)) | (with_reducible refine Row.set2' ?_ _ _; first | exact ⟨_, _, by with_reducible assumption⟩ | exact ⟨_, _, Row.alloc (by with_reducible assumption) _⟩ | exact ⟨_, _, Row.alloc (Row.alloc (by with_reducible assumption) _) _⟩) | (with_reducible refine Row.other ?_ (by first | omega | (simp; done) | (simp; omega)) _)))
      have c_b_0_3 := R_b_3.cell 0 rfl
      have c_b_1_3 := R_b_3.cell 1 rfl
      have c_b_2_3 := R_b_3.cell 2 rfl
      have c_b_3_3 := R_b_3.cell 3 rfl
      have c_b_4_3 := R_b_3.cell 4 rfl
      have c_b_5_3 := R_b_3.cell 5 rfl
      have c_b_6_3 := R_b_3.cell 6 rfl
      have c_b_7_3 := R_b_3.cell 7 rfl
      have c_b_8_3 := R_b_3.cell 8 rfl
      have c_b_9_3 := R_b_3.cell 9 rfl
      have l_b_3 := R_b_3.lt
      have HB3 : Below w.heap.size w w3 := by (repeat' (first | (with_reducible exact Below.refl _ _) | (with_reducible assumption) | (with_reducible exact Bw.out (by with_reducible assumption)) | (with_reducible refine bw_alloc ?_ _) | (with_reducible refine bw_step ?_ (by with_reducible assumption)) | (with_reducible refine Below.alloc ?_ ?_ _) | (with_reducible refine Below.drew ?_) | (with_reducible refine below_drewN ?_ _) | (with_reducible refine Below.setCell ?_ ?_ _) | (with_reducible refine below_step ?_ (by with_reducible assumption) ?_) | (with_reducible exact Nat.le_refl _) | omega | (simp; omega) | (simp; done)))
      clear R_b_2 c_b_0_2 c_b_1_2 c_b_2_2 c_b_3_2 c_b_4_2 c_b_5_2 c_b_6_2 c_b_7_2 c_b_8_2 c_b_9_2 hb2 HB2
      go_wp2_with fail
      go_ret
      refine ⟨(by first | rfl | exact ret_bool (by first | rfl | (simp; done) | (simp; omega))), ?_⟩
      (repeat' (first | (with_reducible exact Below.refl _ _) | (with_reducible assumption) | (with_reducible exact Bw.out (by with_reducible assumption)) | (with_reducible refine bw_alloc ?_ _) | (with_reducible refine bw_step ?_ (by with_reducible assumption)) | (with_reducible refine Below.alloc ?_ ?_ _) | (with_reducible refine Below.drew ?_) | (with_reducible refine below_drewN ?_ _) | (with_reducible refine Below.setCell ?_ ?_ _) | (with_reducible refine below_step ?_ (by with_reducible assumption) ?_) | (with_reducible exact Nat.le_refl _) | omega | (simp; omega) | (simp; done)))
    | true =>
      have HV := Lib.hid hv
      have ok := blkB_ok hv
      have o1 := ok.fr
      have o2 := ok.lt
      have o3 := ok.un
      have hpl : B.picked.length = pm := K.picked.1
      have hpm : 0 < pm := by have := ok.len; rw [hpl] at this; omega
      have hp366 : pm ≤ 366 := by have := ok.len; rw [hpl] at this; omega
      have hr0 := ok.rooms.1
      have hr1 := ok.rooms.2
      have hf0 := ok.fee.1
      have hf1 := ok.fee.2
      obtain ⟨bb, off, hpa, hbb, _⟩ := K.picked.at hpm
      subst hpa
      obtain ⟨X, hX⟩ : ∃ X, feV B = X := ⟨_, rfl⟩
      obtain ⟨E, hE⟩ : ∃ E, feE B = E := ⟨_, rfl⟩
      have HE := Lib.hid hE
      have HX := Lib.hid hX
      have HLP := Lib.hid hpl
      have HOK := Lib.hid ok
      have hall := fee_all hv
      rw [hpl] at hall
      have HALL := Lib.hid hall
      clear hall
      have hq0 := hq.1
      obtain ⟨k, hk⟩ := Int.eq_ofNat_of_zero_le (Int.emod_nonneg q (show (pm : Int) ≠ 0 by omega))
      have hkp : k < pm := by have := Int.emod_lt_of_pos q (show 0 < (pm : Int) by omega); omega
      have hkm : q.tmod (pm : Int) = (k : Int) := by rw [Int.tmod_eq_emod_of_nonneg hq0]; exact hk
      obtain ⟨z, hz⟩ : ∃ z, B.picked.getD k 0 = z := ⟨_, rfl⟩
      have hz2 := ok.picks z (by rw [← hz]; exact getD_mem 0 (by rw [hpl]; exact hkp))
      have hsum := sum_in ok.picks
      have hpmz : ((pm : Int) == 0) = false := by simp; omega
      clear hv ok hpl hE hX K hk
      go_enter Try.func8, Try.ntmps8
      go_wp2_with fail
      refine (head_any _).mono ?_
      rintro e w1 ⟨rfl, hb1⟩
      have R_b_1 : Row w1 (w.heap.size) [.int .i64 B.id, .int .i64 B.kind, .int .i64 B.rooms, .int .i64 B.fr, .int .i64 B.un, .slice ca cn cc, .int .i64 B.pn, .int .i64 B.pd, .int .i64 B.fee, .slice (some ⟨bb, off, none⟩) pm pc] := by (repeat' (first | (with_reducible assumption) | (with_reducible refine Row.new' _ _ _ (by first | rfl | (simp; done) | omega)) | (with_reducible refine Row.alloc ?_ _) | (with_reducible refine Row.drew ?_) | (with_reducible refine Row.drewN ?_ _) | (with_reducible refine Row.step ?_ (by with_reducible assumption)) | (with_reducible refine Row.set2' ?_ _ _; first | exact ⟨_, _, by with_reducible assumption⟩ | exact ⟨_, _, Row.alloc (by with_reducible assumption) _⟩ | exact ⟨_, _, Row.alloc (Row.alloc (by with_reducible assumption) _) _⟩) | (with_reducible refine Row.other ?_ (by first | omega | (simp; done) | (simp; omega)) _)))
      have c_b_0_1 := R_b_1.cell 0 rfl
      have c_b_1_1 := R_b_1.cell 1 rfl
      have c_b_2_1 := R_b_1.cell 2 rfl
      have c_b_3_1 := R_b_1.cell 3 rfl
      have c_b_4_1 := R_b_1.cell 4 rfl
      have c_b_5_1 := R_b_1.cell 5 rfl
      have c_b_6_1 := R_b_1.cell 6 rfl
      have c_b_7_1 := R_b_1.cell 7 rfl
      have c_b_8_1 := R_b_1.cell 8 rfl
      have c_b_9_1 := R_b_1.cell 9 rfl
      have l_b_1 := R_b_1.lt
      have HB1 : Below w.heap.size w w1 := by (repeat' (first | (with_reducible exact Below.refl _ _) | (with_reducible assumption) | (with_reducible exact Bw.out (by with_reducible assumption)) | (with_reducible refine bw_alloc ?_ _) | (with_reducible refine bw_step ?_ (by with_reducible assumption)) | (with_reducible refine Below.alloc ?_ ?_ _) | (with_reducible refine Below.drew ?_) | (with_reducible refine below_drewN ?_ _) | (with_reducible refine Below.setCell ?_ ?_ _) | (with_reducible refine below_step ?_ (by with_reducible assumption) ?_) | (with_reducible exact Nat.le_refl _) | omega | (simp; omega) | (simp; done)))
      go_wp2_with fail
      refine (r_few B ca cn cc (some ⟨bb, off, none⟩) pm pc true _ HF.out).mono ?_
      rintro e w2 ⟨rfl, hb2⟩
      have R_b_2 : Row w2 (w.heap.size) [.int .i64 B.id, .int .i64 B.kind, .int .i64 B.rooms, .int .i64 B.fr, .int .i64 B.un, .slice ca cn cc, .int .i64 B.pn, .int .i64 B.pd, .int .i64 B.fee, .slice (some ⟨bb, off, none⟩) pm pc] := by (repeat' (first | (with_reducible assumption) | (with_reducible refine Row.new' _ _ _ (by first | rfl | (simp; done) | omega)) | (with_reducible refine Row.alloc ?_ _) | (with_reducible refine Row.drew ?_) | (with_reducible refine Row.drewN ?_ _) | (with_reducible refine Row.step ?_ (by with_reducible assumption)) | (with_reducible refine Row.set2' ?_ _ _; first | exact ⟨_, _, by with_reducible assumption⟩ | exact ⟨_, _, Row.alloc (by with_reducible assumption) _⟩ | exact ⟨_, _, Row.alloc (Row.alloc (by with_reducible assumption) _) _⟩) | (with_reducible refine Row.other ?_ (by first | omega | (simp; done) | (simp; omega)) _)))
      have c_b_0_2 := R_b_2.cell 0 rfl
      have c_b_1_2 := R_b_2.cell 1 rfl
      have c_b_2_2 := R_b_2.cell 2 rfl
      have c_b_3_2 := R_b_2.cell 3 rfl
      have c_b_4_2 := R_b_2.cell 4 rfl
      have c_b_5_2 := R_b_2.cell 5 rfl
      have c_b_6_2 := R_b_2.cell 6 rfl
      have c_b_7_2 := R_b_2.cell 7 rfl
      have c_b_8_2 := R_b_2.cell 8 rfl
      have c_b_9_2 := R_b_2.cell 9 rfl
      have l_b_2 := R_b_2.lt
      have HB2 : Below w.heap.size w w2 := by (repeat' (first | (with_reducible exact Below.refl _ _) | (with_reducible assumption) | (with_reducible exact Bw.out (by with_reducible assumption)) | (with_reducible refine bw_alloc ?_ _) | (with_reducible refine bw_step ?_ (by with_reducible assumption)) | (with_reducible refine Below.alloc ?_ ?_ _) | (with_reducible refine Below.drew ?_) | (with_reducible refine below_drewN ?_ _) | (with_reducible refine Below.setCell ?_ ?_ _) | (with_reducible refine below_step ?_ (by with_reducible assumption) ?_) | (with_reducible exact Nat.le_refl _) | omega | (simp; omega) | (simp; done)))
      clear R_b_1 c_b_0_1 c_b_1_1 c_b_2_1 c_b_3_1 c_b_4_1 c_b_5_1 c_b_6_1 c_b_7_1 c_b_8_1 c_b_9_1 hb1 HB1
      go_wp2_with fail
      refine (r_valid_any B ca cn cc (some ⟨bb, off, none⟩) pm pc _ (K0.out.below (by (repeat' (first | (with_reducible exact Below.refl _ _) | (with_reducible assumption) | (with_reducible exact Bw.out (by with_reducible assumption)) | (with_reducible refine bw_alloc ?_ _) | (with_reducible refine bw_step ?_ (by with_reducible assumption)) | (with_reducible refine Below.alloc ?_ ?_ _) | (with_reducible refine Below.drew ?_) | (with_reducible refine below_drewN ?_ _) | (with_reducible refine Below.setCell ?_ ?_ _) | (with_reducible refine below_step ?_ (by with_reducible assumption) ?_) | (with_reducible exact Nat.le_refl _) | omega | (simp; omega) | (simp; done))))) true HV.out).mono ?_
      rintro e w3 ⟨rfl, hb3⟩
      have R_b_3 : Row w3 (w.heap.size) [.int .i64 B.id, .int .i64 B.kind, .int .i64 B.rooms, .int .i64 B.fr, .int .i64 B.un, .slice ca cn cc, .int .i64 B.pn, .int .i64 B.pd, .int .i64 B.fee, .slice (some ⟨bb, off, none⟩) pm pc] := by (repeat' (first | (with_reducible assumption) | (with_reducible refine Row.new' _ _ _ (by first | rfl | (simp; done) | omega)) | (with_reducible refine Row.alloc ?_ _) | (with_reducible refine Row.drew ?_) | (with_reducible refine Row.drewN ?_ _) | (with_reducible refine Row.step ?_ (by with_reducible assumption)) | (with_reducible refine Row.set2' ?_ _ _; first | exact ⟨_, _, by with_reducible assumption⟩ | exact ⟨_, _, Row.alloc (by with_reducible assumption) _⟩ | exact ⟨_, _, Row.alloc (Row.alloc (by with_reducible assumption) _) _⟩) | (with_reducible refine Row.other ?_ (by first | omega | (simp; done) | (simp; omega)) _)))
      have c_b_0_3 := R_b_3.cell 0 rfl
      have c_b_1_3 := R_b_3.cell 1 rfl
      have c_b_2_3 := R_b_3.cell 2 rfl
      have c_b_3_3 := R_b_3.cell 3 rfl
      have c_b_4_3 := R_b_3.cell 4 rfl
      have c_b_5_3 := R_b_3.cell 5 rfl
      have c_b_6_3 := R_b_3.cell 6 rfl
      have c_b_7_3 := R_b_3.cell 7 rfl
      have c_b_8_3 := R_b_3.cell 8 rfl
      have c_b_9_3 := R_b_3.cell 9 rfl
      have l_b_3 := R_b_3.lt
      have HB3 : Below w.heap.size w w3 := by (repeat' (first | (with_reducible exact Below.refl _ _) | (with_reducible assumption) | (with_reducible exact Bw.out (by with_reducible assumption)) | (with_reducible refine bw_alloc ?_ _) | (with_reducible refine bw_step ?_ (by with_reducible assumption)) | (with_reducible refine Below.alloc ?_ ?_ _) | (with_reducible refine Below.drew ?_) | (with_reducible refine below_drewN ?_ _) | (with_reducible refine Below.setCell ?_ ?_ _) | (with_reducible refine below_step ?_ (by with_reducible assumption) ?_) | (with_reducible exact Nat.le_refl _) | omega | (simp; omega) | (simp; done)))
      clear R_b_2 c_b_0_2 c_b_1_2 c_b_2_2 c_b_3_2 c_b_4_2 c_b_5_2 c_b_6_2 c_b_7_2 c_b_8_2 c_b_9_2 hb2 HB2
      go_wp2_with fail
      refine (g_Fee_any B ca cn cc (some ⟨bb, off, none⟩) pm pc _ (K0.out.below (by (repeat' (first | (with_reducible exact Below.refl _ _) | (with_reducible assumption) | (with_reducible exact Bw.out (by with_reducible assumption)) | (with_reducible refine bw_alloc ?_ _) | (with_reducible refine bw_step ?_ (by with_reducible assumption)) | (with_reducible refine Below.alloc ?_ ?_ _) | (with_reducible refine Below.drew ?_) | (with_reducible refine below_drewN ?_ _) | (with_reducible refine Below.setCell ?_ ?_ _) | (with_reducible refine below_step ?_ (by with_reducible assumption) ?_) | (with_reducible exact Nat.le_refl _) | omega | (simp; omega) | (simp; done))))) X E HX.out HE.out).mono ?_
      rintro e w4 ⟨rfl, hb4⟩
      have R_b_4 : Row w4 (w.heap.size) [.int .i64 B.id, .int .i64 B.kind, .int .i64 B.rooms, .int .i64 B.fr, .int .i64 B.un, .slice ca cn cc, .int .i64 B.pn, .int .i64 B.pd, .int .i64 B.fee, .slice (some ⟨bb, off, none⟩) pm pc] := by (repeat' (first | (with_reducible assumption) | (with_reducible refine Row.new' _ _ _ (by first | rfl | (simp; done) | omega)) | (with_reducible refine Row.alloc ?_ _) | (with_reducible refine Row.drew ?_) | (with_reducible refine Row.drewN ?_ _) | (with_reducible refine Row.step ?_ (by with_reducible assumption)) | (with_reducible refine Row.set2' ?_ _ _; first | exact ⟨_, _, by with_reducible assumption⟩ | exact ⟨_, _, Row.alloc (by with_reducible assumption) _⟩ | exact ⟨_, _, Row.alloc (Row.alloc (by with_reducible assumption) _) _⟩) | (with_reducible refine Row.other ?_ (by first | omega | (simp; done) | (simp; omega)) _)))
      have c_b_0_4 := R_b_4.cell 0 rfl
      have c_b_1_4 := R_b_4.cell 1 rfl
      have c_b_2_4 := R_b_4.cell 2 rfl
      have c_b_3_4 := R_b_4.cell 3 rfl
      have c_b_4_4 := R_b_4.cell 4 rfl
      have c_b_5_4 := R_b_4.cell 5 rfl
      have c_b_6_4 := R_b_4.cell 6 rfl
      have c_b_7_4 := R_b_4.cell 7 rfl
      have c_b_8_4 := R_b_4.cell 8 rfl
      have c_b_9_4 := R_b_4.cell 9 rfl
      have l_b_4 := R_b_4.lt
      have HB4 : Below w.heap.size w w4 := by (repeat' (first | (with_reducible exact Below.refl _ _) | (with_reducible assumption) | (with_reducible exact Bw.out (by with_reducible assumption)) | (with_reducible refine bw_alloc ?_ _) | (with_reducible refine bw_step ?_ (by with_reducible assumption)) | (with_reducible refine Below.alloc ?_ ?_ _) | (with_reducible refine Below.drew ?_) | (with_reducible refine below_drewN ?_ _) | (with_reducible refine Below.setCell ?_ ?_ _) | (with_reducible refine below_step ?_ (by with_reducible assumption) ?_) | (with_reducible exact Nat.le_refl _) | omega | (simp; omega) | (simp; done)))
      clear R_b_3 c_b_0_3 c_b_1_3 c_b_2_3 c_b_3_3 c_b_4_3 c_b_5_3 c_b_6_3 c_b_7_3 c_b_8_3 c_b_9_3 hb3 HB3
      go_wp2_with fail
      have HKS : Hid (∀ w', Below w4.heap.size w4 w' → w'.cell? ⟨w.heap.size, 0, none⟩ = some (.int .i64 B.id) ∧ w'.cell? ⟨w.heap.size, 1, none⟩ = some (.int .i64 B.kind) ∧ w'.cell? ⟨w.heap.size, 2, none⟩ = some (.int .i64 B.rooms) ∧ w'.cell? ⟨w.heap.size, 3, none⟩ = some (.int .i64 B.fr) ∧ w'.cell? ⟨w.heap.size, 4, none⟩ = some (.int .i64 B.un) ∧ w'.cell? ⟨w.heap.size, 5, none⟩ = some (.slice ca cn cc) ∧ w'.cell? ⟨w.heap.size, 6, none⟩ = some (.int .i64 B.pn) ∧ w'.cell? ⟨w.heap.size, 7, none⟩ = some (.int .i64 B.pd) ∧ w'.cell? ⟨w.heap.size, 8, none⟩ = some (.int .i64 B.fee) ∧ w'.cell? ⟨w.heap.size, 9, none⟩ = some (.slice (some ⟨bb, off, none⟩) pm pc)) := fun w' h => ⟨(R_b_4.step h).cell 0 rfl, (R_b_4.step h).cell 1 rfl, (R_b_4.step h).cell 2 rfl, (R_b_4.step h).cell 3 rfl, (R_b_4.step h).cell 4 rfl, (R_b_4.step h).cell 5 rfl, (R_b_4.step h).cell 6 rfl, (R_b_4.step h).cell 7 rfl, (R_b_4.step h).cell 8 rfl, (R_b_4.step h).cell 9 rfl⟩
      go_cut [8, 9] (fun s0 s1 wx => ∃ gx gy : Nat, s0 = .pointer (some ⟨gx, 0, none⟩) ∧ s1 = .pointer (some ⟨gy, 0, none⟩) ∧ gx ≠ gy ∧ w4.heap.size ≤ gx ∧ w4.heap.size ≤ gy ∧ Row wx gx [.int .i64 B.id, .int .i64 B.kind, .int .i64 B.rooms, .int .i64 B.fr, .int .i64 B.un, .slice ca cn cc, .int .i64 B.pn, .int .i64 B.pd, .int .i64 B.fee, .slice (some ⟨bb, off, none⟩) pm pc] ∧ Row wx gy [.int .i64 B.id, .int .i64 B.kind, .int .i64 B.rooms, .int .i64 B.fr, .int .i64 B.un, .slice ca cn cc, .int .i64 B.pn, .int .i64 B.pd, .int .i64 B.fee, .slice (some ⟨bb, off, none⟩) pm pc] ∧ Bw w4.heap.size w4 wx)
      case first =>
        refine AnyJ.beginP (fun w' : World => w'.cell? ⟨w.heap.size, 0, none⟩ = some (.int .i64 B.id) ∧ w'.cell? ⟨w.heap.size, 1, none⟩ = some (.int .i64 B.kind) ∧ w'.cell? ⟨w.heap.size, 2, none⟩ = some (.int .i64 B.rooms) ∧ w'.cell? ⟨w.heap.size, 3, none⟩ = some (.int .i64 B.fr) ∧ w'.cell? ⟨w.heap.size, 4, none⟩ = some (.int .i64 B.un) ∧ w'.cell? ⟨w.heap.size, 5, none⟩ = some (.slice ca cn cc) ∧ w'.cell? ⟨w.heap.size, 6, none⟩ = some (.int .i64 B.pn) ∧ w'.cell? ⟨w.heap.size, 7, none⟩ = some (.int .i64 B.pd) ∧ w'.cell? ⟨w.heap.size, 8, none⟩ = some (.int .i64 B.fee) ∧ w'.cell? ⟨w.heap.size, 9, none⟩ = some (.slice (some ⟨bb, off, none⟩) pm pc)) (fun _ => true) (by kernel_rfl) (HKS.out _ (by (repeat' (first | (with_reducible exact Below.refl _ _) | (with_reducible assumption) | (with_reducible exact Bw.out (by with_reducible assumption)) | (with_reducible refine bw_alloc ?_ _) | (with_reducible refine bw_step ?_ (by with_reducible assumption)) | (with_reducible refine Below.alloc ?_ ?_ _) | (with_reducible refine Below.drew ?_) | (with_reducible refine below_drewN ?_ _) | (with_reducible refine Below.setCell ?_ ?_ _) | (with_reducible refine below_step ?_ (by with_reducible assumption) ?_) | (with_reducible exact Nat.le_refl _) | omega | (simp; omega) | (simp; done))))) (fun hS => ?_)
        refine AnyJ.takeD (i := 0) (d := some 35) (v := ?_) rfl (by kernel_rfl) (by kernel_rfl) (by kernel_rfl) (by kernel_rfl) (by kernel_rfl) (fun _ _ _ h => h) (Or.inl ⟨by kernel_rfl, ?_⟩) hS ?_
        rotate_left
        · intro w' hS
          obtain ⟨sF0, sF1, sF2, sF3, sF4, sF5, sF6, sF7, sF8, sF9⟩ := hS
          go_simp
          try with_reducible rfl
        refine AnyJ.takeD (i := 1) (d := some 36) (v := ?_) rfl (by kernel_rfl) (by kernel_rfl) (by kernel_rfl) (by kernel_rfl) (by kernel_rfl) (fun _ _ _ h => h) (Or.inl ⟨by kernel_rfl, ?_⟩) hS ?_
        rotate_left
        · intro w' hS
          obtain ⟨sF0, sF1, sF2, sF3, sF4, sF5, sF6, sF7, sF8, sF9⟩ := hS
          go_simp
          try with_reducible rfl
        refine AnyJ.two (i := 2) (j := 3) (by kernel_rfl) rfl rfl (fun Kz hKz => ?_) (fun Kz hKz => ?_)
        · go_simp
          refine hKz _ _ (fun _ => HKS.out _ (by (repeat' (first | (with_reducible exact Below.refl _ _) | (with_reducible assumption) | (with_reducible exact Bw.out (by with_reducible assumption)) | (with_reducible refine bw_alloc ?_ _) | (with_reducible refine bw_step ?_ (by with_reducible assumption)) | (with_reducible refine Below.alloc ?_ ?_ _) | (with_reducible refine Below.drew ?_) | (with_reducible refine below_drewN ?_ _) | (with_reducible refine Below.setCell ?_ ?_ _) | (with_reducible refine below_step ?_ (by with_reducible assumption) ?_) | (with_reducible exact Nat.le_refl _) | omega | (simp; omega) | (simp; done))))) ?_
          clear hKz Kz
          refine AnyJ.one (i := 3) (by kernel_rfl) rfl (fun Kz hKz => ?_)
          go_simp
          refine hKz _ _ (fun _ => HKS.out _ (by (repeat' (first | (with_reducible exact Below.refl _ _) | (with_reducible assumption) | (with_reducible exact Bw.out (by with_reducible assumption)) | (with_reducible refine bw_alloc ?_ _) | (with_reducible refine bw_step ?_ (by with_reducible assumption)) | (with_reducible refine Below.alloc ?_ ?_ _) | (with_reducible refine Below.drew ?_) | (with_reducible refine below_drewN ?_ _) | (with_reducible refine Below.setCell ?_ ?_ _) | (with_reducible refine below_step ?_ (by with_reducible assumption) ?_) | (with_reducible exact Nat.le_refl _) | omega | (simp; omega) | (simp; done))))) ?_
          clear hKz Kz
          generalize hwA : ((w4.alloc _).alloc _).drew = wA
          have RA : Row wA w4.heap.size [.int .i64 0, .int .i64 0, .int .i64 0, .int .i64 0, .int .i64 0, .slice none 0 0, .int .i64 0, .int .i64 0, .int .i64 0, .slice none 0 0] := by rw [← hwA]; exact (Row.new' w4 [.int .i64 0, .int .i64 0, .int .i64 0, .int .i64 0, .int .i64 0, .slice none 0 0, .int .i64 0, .int .i64 0, .int .i64 0, .slice none 0 0] 29 rfl).alloc _
          have RB : Row wA (w4.heap.size + 1) [.int .i64 0, .int .i64 0, .int .i64 0, .int .i64 0, .int .i64 0, .slice none 0 0, .int .i64 0, .int .i64 0, .int .i64 0, .slice none 0 0] := by rw [← hwA]; exact Row.new' _ [.int .i64 0, .int .i64 0, .int .i64 0, .int .i64 0, .int .i64 0, .slice none 0 0, .int .i64 0, .int .i64 0, .int .i64 0, .slice none 0 0] 29 (by simp)
          have HBA : Below w4.heap.size w4 wA := by rw [← hwA]; (repeat' (first | (with_reducible exact Below.refl _ _) | (with_reducible assumption) | (with_reducible exact Bw.out (by with_reducible assumption)) | (with_reducible refine bw_alloc ?_ _) | (with_reducible refine bw_step ?_ (by with_reducible assumption)) | (with_reducible refine Below.alloc ?_ ?_ _) | (with_reducible refine Below.drew ?_) | (with_reducible refine below_drewN ?_ _) | (with_reducible refine Below.setCell ?_ ?_ _) | (with_reducible refine below_step ?_ (by with_reducible assumption) ?_) | (with_reducible exact Nat.le_refl _) | omega | (simp; omega) | (simp; done)))
          clear hwA
          have rac0 := RA.cell 0 rfl
          have raz0 := RA.frozen 0
          have rac1 := RA.cell 1 rfl
          have raz1 := RA.frozen 1
          have rac2 := RA.cell 2 rfl
          have raz2 := RA.frozen 2
          have rac3 := RA.cell 3 rfl
          have raz3 := RA.frozen 3
          have rac4 := RA.cell 4 rfl
          have raz4 := RA.frozen 4
          have rac5 := RA.cell 5 rfl
          have raz5 := RA.frozen 5
          have rac6 := RA.cell 6 rfl
          have raz6 := RA.frozen 6
          have rac7 := RA.cell 7 rfl
          have raz7 := RA.frozen 7
          have rac8 := RA.cell 8 rfl
          have raz8 := RA.frozen 8
          have rac9 := RA.cell 9 rfl
          have raz9 := RA.frozen 9
          have ral := RA.lt
          have rbc0 := RB.cell 0 rfl
          have rbz0 := RB.frozen 0
          have rbc1 := RB.cell 1 rfl
          have rbz1 := RB.frozen 1
          have rbc2 := RB.cell 2 rfl
          have rbz2 := RB.frozen 2
          have rbc3 := RB.cell 3 rfl
          have rbz3 := RB.frozen 3
          have rbc4 := RB.cell 4 rfl
          have rbz4 := RB.frozen 4
          have rbc5 := RB.cell 5 rfl
          have rbz5 := RB.frozen 5
          have rbc6 := RB.cell 6 rfl
          have rbz6 := RB.frozen 6
          have rbc7 := RB.cell 7 rfl
          have rbz7 := RB.frozen 7
          have rbc8 := RB.cell 8 rfl
          have rbz8 := RB.frozen 8
          have rbc9 := RB.cell 9 rfl
          have rbz9 := RB.frozen 9
          have rbl := RB.lt
          refine AnyJ.one (i := 4) (by kernel_rfl) rfl (fun Kz hKz => ?_)
          go_simp
          obtain ⟨wB, hwB, R1, ho1, hb1⟩ := RA.put10 (.int .i64 B.id) (.int .i64 B.kind) (.int .i64 B.rooms) (.int .i64 B.fr) (.int .i64 B.un) (.slice ca cn cc) (.int .i64 B.pn) (.int .i64 B.pd) (.int .i64 B.fee) (.slice (some ⟨bb, off, none⟩) pm pc)
          rw [hwB]
          have R2 := RB.of_block (ho1 _ (by simp))
          have HBB := hb1 _ _ (by simp) HBA
          refine hKz _ _ (fun _ => HKS.out _ HBB) ?_
          clear hKz Kz hwB rac0 raz0 rac1 raz1 rac2 raz2 rac3 raz3 rac4 raz4 rac5 raz5 rac6 raz6 rac7 raz7 rac8 raz8 rac9 raz9 rbc0 rbz0 rbc1 rbz1 rbc2 rbz2 rbc3 rbz3 rbc4 rbz4 rbc5 rbz5 rbc6 rbz6 rbc7 rbz7 rbc8 rbz8 rbc9 rbz9 ral rbl RA RB ho1 hb1 HBA
          have rbc0 := R2.cell 0 rfl
          have rbz0 := R2.frozen 0
          have rbc1 := R2.cell 1 rfl
          have rbz1 := R2.frozen 1
          have rbc2 := R2.cell 2 rfl
          have rbz2 := R2.frozen 2
          have rbc3 := R2.cell 3 rfl
          have rbz3 := R2.frozen 3
          have rbc4 := R2.cell 4 rfl
          have rbz4 := R2.frozen 4
          have rbc5 := R2.cell 5 rfl
          have rbz5 := R2.frozen 5
          have rbc6 := R2.cell 6 rfl
          have rbz6 := R2.frozen 6
          have rbc7 := R2.cell 7 rfl
          have rbz7 := R2.frozen 7
          have rbc8 := R2.cell 8 rfl
          have rbz8 := R2.frozen 8
          have rbc9 := R2.cell 9 rfl
          have rbz9 := R2.frozen 9
          have rbl := R2.lt
          refine AnyJ.one (i := 5) (by kernel_rfl) rfl (fun Kz hKz => ?_)
          go_simp
          obtain ⟨wC, hwC, R2', ho2, hb2⟩ := R2.put10 (.int .i64 B.id) (.int .i64 B.kind) (.int .i64 B.rooms) (.int .i64 B.fr) (.int .i64 B.un) (.slice ca cn cc) (.int .i64 B.pn) (.int .i64 B.pd) (.int .i64 B.fee) (.slice (some ⟨bb, off, none⟩) pm pc)
          rw [hwC]
          have R1' := R1.of_block (ho2 _ (by simp))
          have HBC := hb2 _ _ (by simp) HBB
          refine hKz _ _ (fun _ => HKS.out _ HBC) ?_
          clear hKz Kz hwC rbc0 rbz0 rbc1 rbz1 rbc2 rbz2 rbc3 rbz3 rbc4 rbz4 rbc5 rbz5 rbc6 rbz6 rbc7 rbz7 rbc8 rbz8 rbc9 rbz9 rbl R1 R2 ho2 hb2 HBB
          refine AnyJ.done (by kernel_rfl) ?_ _
          try simp only [Act.put, List.setIfInBounds_toArray, List.set_cons_zero, List.set_cons_succ]
          go_wp2_with fail
          go_meet
          exact ⟨w4.heap.size, (w4.heap.size + 1), rfl, rfl, by omega, by omega, by omega, R1', R2', HBC⟩
        · go_simp
          refine hKz _ _ (fun _ => HKS.out _ (by (repeat' (first | (with_reducible exact Below.refl _ _) | (with_reducible assumption) | (with_reducible exact Bw.out (by with_reducible assumption)) | (with_reducible refine bw_alloc ?_ _) | (with_reducible refine bw_step ?_ (by with_reducible assumption)) | (with_reducible refine Below.alloc ?_ ?_ _) | (with_reducible refine Below.drew ?_) | (with_reducible refine below_drewN ?_ _) | (with_reducible refine Below.setCell ?_ ?_ _) | (with_reducible refine below_step ?_ (by with_reducible assumption) ?_) | (with_reducible exact Nat.le_refl _) | omega | (simp; omega) | (simp; done))))) ?_
          clear hKz Kz
          refine AnyJ.one (i := 2) (by kernel_rfl) rfl (fun Kz hKz => ?_)
          go_simp
          refine hKz _ _ (fun _ => HKS.out _ (by (repeat' (first | (with_reducible exact Below.refl _ _) | (with_reducible assumption) | (with_reducible exact Bw.out (by with_reducible assumption)) | (with_reducible refine bw_alloc ?_ _) | (with_reducible refine bw_step ?_ (by with_reducible assumption)) | (with_reducible refine Below.alloc ?_ ?_ _) | (with_reducible refine Below.drew ?_) | (with_reducible refine below_drewN ?_ _) | (with_reducible refine Below.setCell ?_ ?_ _) | (with_reducible refine below_step ?_ (by with_reducible assumption) ?_) | (with_reducible exact Nat.le_refl _) | omega | (simp; omega) | (simp; done))))) ?_
          clear hKz Kz
          generalize hwA : ((w4.alloc _).alloc _).drew = wA
          have RA : Row wA w4.heap.size [.int .i64 0, .int .i64 0, .int .i64 0, .int .i64 0, .int .i64 0, .slice none 0 0, .int .i64 0, .int .i64 0, .int .i64 0, .slice none 0 0] := by rw [← hwA]; exact (Row.new' w4 [.int .i64 0, .int .i64 0, .int .i64 0, .int .i64 0, .int .i64 0, .slice none 0 0, .int .i64 0, .int .i64 0, .int .i64 0, .slice none 0 0] 29 rfl).alloc _
          have RB : Row wA (w4.heap.size + 1) [.int .i64 0, .int .i64 0, .int .i64 0, .int .i64 0, .int .i64 0, .slice none 0 0, .int .i64 0, .int .i64 0, .int .i64 0, .slice none 0 0] := by rw [← hwA]; exact Row.new' _ [.int .i64 0, .int .i64 0, .int .i64 0, .int .i64 0, .int .i64 0, .slice none 0 0, .int .i64 0, .int .i64 0, .int .i64 0, .slice none 0 0] 29 (by simp)
          have HBA : Below w4.heap.size w4 wA := by rw [← hwA]; (repeat' (first | (with_reducible exact Below.refl _ _) | (with_reducible assumption) | (with_reducible exact Bw.out (by with_reducible assumption)) | (with_reducible refine bw_alloc ?_ _) | (with_reducible refine bw_step ?_ (by with_reducible assumption)) | (with_reducible refine Below.alloc ?_ ?_ _) | (with_reducible refine Below.drew ?_) | (with_reducible refine below_drewN ?_ _) | (with_reducible refine Below.setCell ?_ ?_ _) | (with_reducible refine below_step ?_ (by with_reducible assumption) ?_) | (with_reducible exact Nat.le_refl _) | omega | (simp; omega) | (simp; done)))
          clear hwA
          have rac0 := RA.cell 0 rfl
          have raz0 := RA.frozen 0
          have rac1 := RA.cell 1 rfl
          have raz1 := RA.frozen 1
          have rac2 := RA.cell 2 rfl
          have raz2 := RA.frozen 2
          have rac3 := RA.cell 3 rfl
          have raz3 := RA.frozen 3
          have rac4 := RA.cell 4 rfl
          have raz4 := RA.frozen 4
          have rac5 := RA.cell 5 rfl
          have raz5 := RA.frozen 5
          have rac6 := RA.cell 6 rfl
          have raz6 := RA.frozen 6
          have rac7 := RA.cell 7 rfl
          have raz7 := RA.frozen 7
          have rac8 := RA.cell 8 rfl
          have raz8 := RA.frozen 8
          have rac9 := RA.cell 9 rfl
          have raz9 := RA.frozen 9
          have ral := RA.lt
          have rbc0 := RB.cell 0 rfl
          have rbz0 := RB.frozen 0
          have rbc1 := RB.cell 1 rfl
          have rbz1 := RB.frozen 1
          have rbc2 := RB.cell 2 rfl
          have rbz2 := RB.frozen 2
          have rbc3 := RB.cell 3 rfl
          have rbz3 := RB.frozen 3
          have rbc4 := RB.cell 4 rfl
          have rbz4 := RB.frozen 4
          have rbc5 := RB.cell 5 rfl
          have rbz5 := RB.frozen 5
          have rbc6 := RB.cell 6 rfl
          have rbz6 := RB.frozen 6
          have rbc7 := RB.cell 7 rfl
          have rbz7 := RB.frozen 7
          have rbc8 := RB.cell 8 rfl
          have rbz8 := RB.frozen 8
          have rbc9 := RB.cell 9 rfl
          have rbz9 := RB.frozen 9
          have rbl := RB.lt
          refine AnyJ.one (i := 4) (by kernel_rfl) rfl (fun Kz hKz => ?_)
          go_simp
          obtain ⟨wB, hwB, R1, ho1, hb1⟩ := RB.put10 (.int .i64 B.id) (.int .i64 B.kind) (.int .i64 B.rooms) (.int .i64 B.fr) (.int .i64 B.un) (.slice ca cn cc) (.int .i64 B.pn) (.int .i64 B.pd) (.int .i64 B.fee) (.slice (some ⟨bb, off, none⟩) pm pc)
          rw [hwB]
          have R2 := RA.of_block (ho1 _ (by simp))
          have HBB := hb1 _ _ (by simp) HBA
          refine hKz _ _ (fun _ => HKS.out _ HBB) ?_
          clear hKz Kz hwB rac0 raz0 rac1 raz1 rac2 raz2 rac3 raz3 rac4 raz4 rac5 raz5 rac6 raz6 rac7 raz7 rac8 raz8 rac9 raz9 rbc0 rbz0 rbc1 rbz1 rbc2 rbz2 rbc3 rbz3 rbc4 rbz4 rbc5 rbz5 rbc6 rbz6 rbc7 rbz7 rbc8 rbz8 rbc9 rbz9 ral rbl RA RB ho1 hb1 HBA
          have rbc0 := R2.cell 0 rfl
          have rbz0 := R2.frozen 0
          have rbc1 := R2.cell 1 rfl
          have rbz1 := R2.frozen 1
          have rbc2 := R2.cell 2 rfl
          have rbz2 := R2.frozen 2
          have rbc3 := R2.cell 3 rfl
          have rbz3 := R2.frozen 3
          have rbc4 := R2.cell 4 rfl
          have rbz4 := R2.frozen 4
          have rbc5 := R2.cell 5 rfl
          have rbz5 := R2.frozen 5
          have rbc6 := R2.cell 6 rfl
          have rbz6 := R2.frozen 6
          have rbc7 := R2.cell 7 rfl
          have rbz7 := R2.frozen 7
          have rbc8 := R2.cell 8 rfl
          have rbz8 := R2.frozen 8
          have rbc9 := R2.cell 9 rfl
          have rbz9 := R2.frozen 9
          have rbl := R2.lt
          refine AnyJ.one (i := 5) (by kernel_rfl) rfl (fun Kz hKz => ?_)
          go_simp
          obtain ⟨wC, hwC, R2', ho2, hb2⟩ := R2.put10 (.int .i64 B.id) (.int .i64 B.kind) (.int .i64 B.rooms) (.int .i64 B.fr) (.int .i64 B.un) (.slice ca cn cc) (.int .i64 B.pn) (.int .i64 B.pd) (.int .i64 B.fee) (.slice (some ⟨bb, off, none⟩) pm pc)
          rw [hwC]
          have R1' := R1.of_block (ho2 _ (by simp))
          have HBC := hb2 _ _ (by simp) HBB
          refine hKz _ _ (fun _ => HKS.out _ HBC) ?_
          clear hKz Kz hwC rbc0 rbz0 rbc1 rbz1 rbc2 rbz2 rbc3 rbz3 rbc4 rbz4 rbc5 rbz5 rbc6 rbz6 rbc7 rbz7 rbc8 rbz8 rbc9 rbz9 rbl R1 R2 ho2 hb2 HBB
          refine AnyJ.done (by kernel_rfl) ?_ _
          try simp only [Act.put, List.setIfInBounds_toArray, List.set_cons_zero, List.set_cons_succ]
          go_wp2_with fail
          go_meet
          exact ⟨(w4.heap.size + 1), w4.heap.size, rfl, rfl, by omega, by omega, by omega, R1', R2', HBC⟩
      case' rest =>
        obtain ⟨gx, gy, rfl, rfl, hxy, hgx, hgy, RX5, RY5, hb5⟩ := hcut
        obtain ⟨w5, hw5⟩ : ∃ wd, wd = wc := ⟨_, rfl⟩
        subst hw5
        replace hb5 := hb5.out
        clear HKS
        have R_b_5 : Row w5 (w.heap.size) [.int .i64 B.id, .int .i64 B.kind, .int .i64 B.rooms, .int .i64 B.fr, .int .i64 B.un, .slice ca cn cc, .int .i64 B.pn, .int .i64 B.pd, .int .i64 B.fee, .slice (some ⟨bb, off, none⟩) pm pc] := by (repeat' (first | (with_reducible assumption) | (with_reducible refine Row.new' _ _ _ (by first | rfl | (simp; done) | omega)) | (with_reducible refine Row.alloc ?_ _) | (with_reducible refine Row.drew ?_) | (with_reducible refine Row.drewN ?_ _) | (with_reducible refine Row.step ?_ (by with_reducible assumption)) | (with_reducible refine Row.set2' ?_ _ _; first | exact ⟨_, _, by with_reducible assumption⟩ | exact ⟨_, _, Row.alloc (by with_reducible assumption) _⟩ | exact ⟨_, _, Row.alloc (Row.alloc (by with_reducible assumption) _) _⟩) | (with_reducible refine Row.other ?_ (by first | omega | (simp; done) | (simp; omega)) _)))
        have c_b_0_5 := R_b_5.cell 0 rfl
        have c_b_1_5 := R_b_5.cell 1 rfl
        have c_b_2_5 := R_b_5.cell 2 rfl
        have c_b_3_5 := R_b_5.cell 3 rfl
        have c_b_4_5 := R_b_5.cell 4 rfl
        have c_b_5_5 := R_b_5.cell 5 rfl
        have c_b_6_5 := R_b_5.cell 6 rfl
        have c_b_7_5 := R_b_5.cell 7 rfl
        have c_b_8_5 := R_b_5.cell 8 rfl
        have c_b_9_5 := R_b_5.cell 9 rfl
        have l_b_5 := R_b_5.lt
        have R_x_5 : Row w5 (gx) [.int .i64 B.id, .int .i64 B.kind, .int .i64 B.rooms, .int .i64 B.fr, .int .i64 B.un, .slice ca cn cc, .int .i64 B.pn, .int .i64 B.pd, .int .i64 B.fee, .slice (some ⟨bb, off, none⟩) pm pc] := by (repeat' (first | (with_reducible assumption) | (with_reducible refine Row.new' _ _ _ (by first | rfl | (simp; done) | omega)) | (with_reducible refine Row.alloc ?_ _) | (with_reducible refine Row.drew ?_) | (with_reducible refine Row.drewN ?_ _) | (with_reducible refine Row.step ?_ (by with_reducible assumption)) | (with_reducible refine Row.set2' ?_ _ _; first | exact ⟨_, _, by with_reducible assumption⟩ | exact ⟨_, _, Row.alloc (by with_reducible assumption) _⟩ | exact ⟨_, _, Row.alloc (Row.alloc (by with_reducible assumption) _) _⟩) | (with_reducible refine Row.other ?_ (by first | omega | (simp; done) | (simp; omega)) _)))
        have c_x_0_5 := R_x_5.cell 0 rfl
        have c_x_1_5 := R_x_5.cell 1 rfl
        have c_x_2_5 := R_x_5.cell 2 rfl
        have c_x_3_5 := R_x_5.cell 3 rfl
        have c_x_4_5 := R_x_5.cell 4 rfl
        have c_x_5_5 := R_x_5.cell 5 rfl
        have c_x_6_5 := R_x_5.cell 6 rfl
        have c_x_7_5 := R_x_5.cell 7 rfl
        have c_x_8_5 := R_x_5.cell 8 rfl
        have c_x_9_5 := R_x_5.cell 9 rfl
        have z_x_0_5 := R_x_5.frozen 0
        have z_x_1_5 := R_x_5.frozen 1
        have z_x_2_5 := R_x_5.frozen 2
        have z_x_3_5 := R_x_5.frozen 3
        have z_x_4_5 := R_x_5.frozen 4
        have z_x_5_5 := R_x_5.frozen 5
        have z_x_6_5 := R_x_5.frozen 6
        have z_x_7_5 := R_x_5.frozen 7
        have z_x_8_5 := R_x_5.frozen 8
        have z_x_9_5 := R_x_5.frozen 9
        have l_x_5 := R_x_5.lt
        have R_y_5 : Row w5 (gy) [.int .i64 B.id, .int .i64 B.kind, .int .i64 B.rooms, .int .i64 B.fr, .int .i64 B.un, .slice ca cn cc, .int .i64 B.pn, .int .i64 B.pd, .int .i64 B.fee, .slice (some ⟨bb, off, none⟩) pm pc] := by (repeat' (first | (with_reducible assumption) | (with_reducible refine Row.new' _ _ _ (by first | rfl | (simp; done) | omega)) | (with_reducible refine Row.alloc ?_ _) | (with_reducible refine Row.drew ?_) | (with_reducible refine Row.drewN ?_ _) | (with_reducible refine Row.step ?_ (by with_reducible assumption)) | (with_reducible refine Row.set2' ?_ _ _; first | exact ⟨_, _, by with_reducible assumption⟩ | exact ⟨_, _, Row.alloc (by with_reducible assumption) _⟩ | exact ⟨_, _, Row.alloc (Row.alloc (by with_reducible assumption) _) _⟩) | (with_reducible refine Row.other ?_ (by first | omega | (simp; done) | (simp; omega)) _)))
        have c_y_0_5 := R_y_5.cell 0 rfl
        have c_y_1_5 := R_y_5.cell 1 rfl
        have c_y_2_5 := R_y_5.cell 2 rfl
        have c_y_3_5 := R_y_5.cell 3 rfl
        have c_y_4_5 := R_y_5.cell 4 rfl
        have c_y_5_5 := R_y_5.cell 5 rfl
        have c_y_6_5 := R_y_5.cell 6 rfl
        have c_y_7_5 := R_y_5.cell 7 rfl
        have c_y_8_5 := R_y_5.cell 8 rfl
        have c_y_9_5 := R_y_5.cell 9 rfl
        have z_y_0_5 := R_y_5.frozen 0
        have z_y_1_5 := R_y_5.frozen 1
        have z_y_2_5 := R_y_5.frozen 2
        have z_y_3_5 := R_y_5.frozen 3
        have z_y_4_5 := R_y_5.frozen 4
        have z_y_5_5 := R_y_5.frozen 5
        have z_y_6_5 := R_y_5.frozen 6
        have z_y_7_5 := R_y_5.frozen 7
        have z_y_8_5 := R_y_5.frozen 8
        have z_y_9_5 := R_y_5.frozen 9
        have l_y_5 := R_y_5.lt
        have HB5 : Below w.heap.size w w5 := by (repeat' (first | (with_reducible exact Below.refl _ _) | (with_reducible assumption) | (with_reducible exact Bw.out (by with_reducible assumption)) | (with_reducible refine bw_alloc ?_ _) | (with_reducible refine bw_step ?_ (by with_reducible assumption)) | (with_reducible refine Below.alloc ?_ ?_ _) | (with_reducible refine Below.drew ?_) | (with_reducible refine below_drewN ?_ _) | (with_reducible refine Below.setCell ?_ ?_ _) | (with_reducible refine below_step ?_ (by with_reducible assumption) ?_) | (with_reducible exact Nat.le_refl _) | omega | (simp; omega) | (simp; done)))
        clear R_b_4 c_b_0_4 c_b_1_4 c_b_2_4 c_b_3_4 c_b_4_4 c_b_5_4 c_b_6_4 c_b_7_4 c_b_8_4 c_b_9_4 hb4 HB4
        clear RX5 RY5
        have KP5 := Lib.hid (K0.out.picked.below HB5)
        go_upto_region 7 with (at_builtin; refine wpList_append_ints rfl _ _ _ rfl Try.underlying27 w5.heap.size _ [] rfl (OwnV.lit ⟨_, heap_new _ _, rfl⟩ (by simp)) ⟨bb, off, none⟩ pm pc B.picked rfl (KP5.out.below (by (repeat' (first | (with_reducible exact Below.refl _ _) | (with_reducible assumption) | (with_reducible exact Bw.out (by with_reducible assumption)) | (with_reducible refine bw_alloc ?_ _) | (with_reducible refine bw_step ?_ (by with_reducible assumption)) | (with_reducible refine Below.alloc ?_ ?_ _) | (with_reducible refine Below.drew ?_) | (with_reducible refine below_drewN ?_ _) | (with_reducible refine Below.setCell ?_ ?_ _) | (with_reducible refine below_step ?_ (by with_reducible assumption) ?_) | (with_reducible exact Nat.le_refl _) | omega | (simp; omega) | (simp; done))))) (by simp; omega) (by simp) ?_; intro v' w6 hown6 hbl6 hsz6; obtain ⟨g2, cp2, rfl, hg2, hO6, hc1, hc2⟩ := hown6.own2 (by rw [List.nil_append]; exact HLP.out) hpm; have hb6 : Below w5.heap.size w5 w6 := hbl6 w5 (by (repeat' (first | (with_reducible exact Below.refl _ _) | (with_reducible assumption) | (with_reducible exact Bw.out (by with_reducible assumption)) | (with_reducible refine bw_alloc ?_ _) | (with_reducible refine bw_step ?_ (by with_reducible assumption)) | (with_reducible refine Below.alloc ?_ ?_ _) | (with_reducible refine Below.drew ?_) | (with_reducible refine below_drewN ?_ _) | (with_reducible refine Below.setCell ?_ ?_ _) | (with_reducible refine below_step ?_ (by with_reducible assumption) ?_) | (with_reducible exact Nat.le_refl _) | omega | (simp; omega) | (simp; done)))); have R_x_6 := R_x_5.step hb6; have R_y_6 := R_y_5.step hb6; have cx6 := R_x_6.cell 9 rfl; have cy6 := R_y_6.cell 9 rfl; have zx6 := R_x_6.frozen 9; have zy6 := R_y_6.frozen 9; have lx6 := R_x_6.lt; have ly6 := R_y_6.lt)
        clear cx6 cy6 zx6 zy6 R_x_6 R_y_6
        rw [List.nil_append] at hO6
        obtain ⟨w7, hw7⟩ : ∃ wd, (w6.setCell ⟨gx, 9, none⟩ (.slice none 0 0)).setCell ⟨gy, 9, none⟩ (.slice (some ⟨g2, 0, none⟩) pm cp2) = wd := ⟨_, rfl⟩
        rw [hw7]
        have R_x_7 : Row w7 gx [.int .i64 B.id, .int .i64 B.kind, .int .i64 B.rooms, .int .i64 B.fr, .int .i64 B.un, .slice ca cn cc, .int .i64 B.pn, .int .i64 B.pd, .int .i64 B.fee, .slice none 0 0] := by rw [← hw7]; exact ((R_x_5.step hb6).putAt 9 _ rfl).other hxy _
        have R_y_7 : Row w7 gy [.int .i64 B.id, .int .i64 B.kind, .int .i64 B.rooms, .int .i64 B.fr, .int .i64 B.un, .slice ca cn cc, .int .i64 B.pn, .int .i64 B.pd, .int .i64 B.fee, .slice (some ⟨g2, 0, none⟩) pm cp2] := by rw [← hw7]; exact ((R_y_5.step hb6).other (Ne.symm hxy) _).putAt 9 _ rfl
        have R_b_7 : Row w7 w.heap.size [.int .i64 B.id, .int .i64 B.kind, .int .i64 B.rooms, .int .i64 B.fr, .int .i64 B.un, .slice ca cn cc, .int .i64 B.pn, .int .i64 B.pd, .int .i64 B.fee, .slice (some ⟨bb, off, none⟩) pm pc] := by rw [← hw7]; exact ((R_b_5.step hb6).other (by simp; omega) _).other (by simp; omega) _
        have O7 : Hid (OwnI w7 g2 B.picked) := by rw [← hw7]; exact (hO6.other (by simp; omega) _).other (by simp; omega) _
        have HB7 : Below w.heap.size w w7 := by rw [← hw7]; exact ((HB5.trans (hb6.mono HB5.size)).setCell (by simp; omega) _).setCell (by simp; omega) _
        have hgx7 : gx < w7.heap.size := R_x_7.lt
        have hgy7 : gy < w7.heap.size := R_y_7.lt
        have hg27 : g2 < w7.heap.size := O7.out.lt
        have hwb : w.heap.size < w7.heap.size := R_b_7.lt
        have hgxw : w.heap.size < gx := by omega
        have hgyw : w.heap.size < gy := by omega
        have hg2w : w5.heap.size ≤ g2 := hg2
        clear hw7 hown6 hbl6 hO6 hb6 KP5 R_x_5 R_y_5 R_b_5 HB5 hb5 c_x_0_5 c_y_0_5 c_b_0_5 z_x_0_5 z_y_0_5 c_x_1_5 c_y_1_5 c_b_1_5 z_x_1_5 z_y_1_5 c_x_2_5 c_y_2_5 c_b_2_5 z_x_2_5 z_y_2_5 c_x_3_5 c_y_3_5 c_b_3_5 z_x_3_5 z_y_3_5 c_x_4_5 c_y_4_5 c_b_4_5 z_x_4_5 z_y_4_5 c_x_5_5 c_y_5_5 c_b_5_5 z_x_5_5 z_y_5_5 c_x_6_5 c_y_6_5 c_b_6_5 z_x_6_5 z_y_6_5 c_x_7_5 c_y_7_5 c_b_7_5 z_x_7_5 z_y_7_5 c_x_8_5 c_y_8_5 c_b_8_5 z_x_8_5 z_y_8_5 c_x_9_5 c_y_9_5 c_b_9_5 z_x_9_5 z_y_9_5
        have c_b_9_7 := R_b_7.cell 9 rfl
        go_wp2_with fail
        go_loopw [10, 46] (fun u i wr => ∃ (m : Nat) (ad : Option Addr) (cp : Nat), m ≤ pm ∧ i = .int .i64 m ∧ u = .int .i64 ((B.picked.take m).sum) ∧ Hid (OwnV wr w7.heap.size (.slice ad m cp) (List.replicate m B.rooms)) ∧ Hid (Row wr gx [.int .i64 B.id, .int .i64 B.kind, .int .i64 B.rooms, .int .i64 B.fr, .int .i64 B.un, .slice ca cn cc, .int .i64 B.pn, .int .i64 B.pd, .int .i64 B.fee, .slice ad m cp]) ∧ Hid (Row wr gy [.int .i64 B.id, .int .i64 B.kind, .int .i64 B.rooms, .int .i64 B.fr, .int .i64 B.un, .slice ca cn cc, .int .i64 B.pn, .int .i64 B.pd, .int .i64 B.fee, .slice (some ⟨g2, 0, none⟩) pm cp2]) ∧ Hid (Row wr w.heap.size [.int .i64 B.id, .int .i64 B.kind, .int .i64 B.rooms, .int .i64 B.fr, .int .i64 B.un, .slice ca cn cc, .int .i64 B.pn, .int .i64 B.pd, .int .i64 B.fee, .slice (some ⟨bb, off, none⟩) pm pc]) ∧ Hid (OwnI wr g2 B.picked) ∧ Hid (Below w.heap.size w wr) ∧ w7.heap.size ≤ wr.heap.size) (fun _ i _ => pm - (intOf i).toNat)
        case atStart => exact ⟨0, none, 0, Nat.zero_le _, rfl, rfl, OwnV.nil _ _, R_x_7, R_y_7, R_b_7, O7, HB7, Nat.le_refl _⟩
        case round =>
          obtain ⟨m, ad, cp, hm, rfl, rfl, hO, hRx, hRy, hRb, hO2, hB, hsz⟩ := hrel
          obtain ⟨U, hU⟩ : ∃ U, (B.picked.take m).sum = U := ⟨_, rfl⟩
          rw [hU]
          obtain ⟨w8, hw8⟩ : ∃ wd : World, wd = wr := ⟨_, rfl⟩
          subst hw8
          clear R_x_7 R_y_7 R_b_7 O7 HB7 c_b_9_7
          have R_x_8 := hRx.out
          have R_y_8 := hRy.out
          have R_b_8 := hRb.out
          have O8 := hO2
          have HB8 := hB.out
          clear hRx hRy hRb hB hO2
          have c_x_0_8 := R_x_8.cell 0 rfl
          have z_x_0_8 := R_x_8.frozen 0
          have c_x_1_8 := R_x_8.cell 1 rfl
          have z_x_1_8 := R_x_8.frozen 1
          have c_x_2_8 := R_x_8.cell 2 rfl
          have z_x_2_8 := R_x_8.frozen 2
          have c_x_3_8 := R_x_8.cell 3 rfl
          have z_x_3_8 := R_x_8.frozen 3
          have c_x_4_8 := R_x_8.cell 4 rfl
          have z_x_4_8 := R_x_8.frozen 4
          have c_x_5_8 := R_x_8.cell 5 rfl
          have z_x_5_8 := R_x_8.frozen 5
          have c_x_6_8 := R_x_8.cell 6 rfl
          have z_x_6_8 := R_x_8.frozen 6
          have c_x_7_8 := R_x_8.cell 7 rfl
          have z_x_7_8 := R_x_8.frozen 7
          have c_x_8_8 := R_x_8.cell 8 rfl
          have z_x_8_8 := R_x_8.frozen 8
          have c_x_9_8 := R_x_8.cell 9 rfl
          have z_x_9_8 := R_x_8.frozen 9
          have l_x_8 := R_x_8.lt
          have c_y_0_8 := R_y_8.cell 0 rfl
          have c_y_1_8 := R_y_8.cell 1 rfl
          have c_y_2_8 := R_y_8.cell 2 rfl
          have c_y_3_8 := R_y_8.cell 3 rfl
          have c_y_4_8 := R_y_8.cell 4 rfl
          have c_y_5_8 := R_y_8.cell 5 rfl
          have c_y_6_8 := R_y_8.cell 6 rfl
          have c_y_7_8 := R_y_8.cell 7 rfl
          have c_y_8_8 := R_y_8.cell 8 rfl
          have c_y_9_8 := R_y_8.cell 9 rfl
          have l_y_8 := R_y_8.lt
          have c_b_0_8 := R_b_8.cell 0 rfl
          have c_b_1_8 := R_b_8.cell 1 rfl
          have c_b_2_8 := R_b_8.cell 2 rfl
          have c_b_3_8 := R_b_8.cell 3 rfl
          have c_b_4_8 := R_b_8.cell 4 rfl
          have c_b_5_8 := R_b_8.cell 5 rfl
          have c_b_6_8 := R_b_8.cell 6 rfl
          have c_b_7_8 := R_b_8.cell 7 rfl
          have c_b_8_8 := R_b_8.cell 8 rfl
          have c_b_9_8 := R_b_8.cell 9 rfl
          have l_b_8 := R_b_8.lt
          by_cases hlt : m < pm
          · obtain ⟨y, hy⟩ : ∃ y, B.picked.getD m 0 = y := ⟨_, rfl⟩
            have hml : m < B.picked.length := by rw [HLP.out]; exact hlt
            have HSU : Hid ((B.picked.take (m + 1)).sum = U + y) := by show _ = _; rw [sum_take hml, hU, hy]
            have hUb := sum_in (l := B.picked.take m) (m := B.rooms) (fun y hy => HOK.out.picks y (List.mem_of_mem_take hy))
            have hyb := HOK.out.picks y (by rw [← hy]; exact getD_mem 0 hml)
            have hU2 : B.rooms * ((B.picked.take m).length : Int) ≤ 400 * 366 := Int.mul_le_mul hr1 (by rw [List.length_take]; omega) (by omega) (by omega)
            rw [hU] at hUb
            have Z : CellAt w8 bb (off + m) (.int .i64 y) := by rw [← hy]; exact (K0.out.picked.below HB8).cellOf hlt
            have Zc := Z.out
            obtain ⟨u0, u1⟩ : 0 ≤ U ∧ U ≤ 146400 := by omega
            obtain ⟨y0, y1⟩ := hyb
            have i1 : (0 : Int) ≤ (m : Int) := by omega
            have i2 : (m : Int) < (pm : Int) := by omega
            clear hml hy hUb hU2 Z hsum hz2 hz
            go_wp2_with (at_builtin; refine wpList_append_int rfl _ _ _ rfl Try.underlying27 w7.heap.size _ (List.replicate m B.rooms) rfl (hO.out.alloc _) w8.heap.size 1 B.rooms rfl ((Row.new' w8 [_] _ rfl).cell 0 rfl) (by simp; omega) (by simp; omega) ?_; intro v' w9 hown9 hbl9 hsz9; obtain ⟨ad3, cp3, rfl, ho3⟩ := hown9.shape (m + 1) (by simp); have hb9 : Below w7.heap.size w8 w9 := hbl9 w8 (by (repeat' (first | (with_reducible exact Below.refl _ _) | (with_reducible assumption) | (with_reducible exact Bw.out (by with_reducible assumption)) | (with_reducible refine bw_alloc ?_ _) | (with_reducible refine bw_step ?_ (by with_reducible assumption)) | (with_reducible refine Below.alloc ?_ ?_ _) | (with_reducible refine Below.drew ?_) | (with_reducible refine below_drewN ?_ _) | (with_reducible refine Below.setCell ?_ ?_ _) | (with_reducible refine below_step ?_ (by with_reducible assumption) ?_) | (with_reducible exact Nat.le_refl _) | omega | (simp; omega) | (simp; done)))); have R_x_9 := R_x_8.below hb9 hgx7; have cx9 := R_x_9.cell 9 rfl; have zx9 := R_x_9.frozen 9; have lx9 := R_x_9.lt)
            go_wp2_with fail
            go_roundw
            case rel =>
              refine ⟨m + 1, ad3, cp3, by omega, by go_num, congrArg (Value.int .i64) HSU.out.symm, ?_, (R_x_8.below hb9 hgx7).putAt 9 _ rfl, (R_y_8.below hb9 hgy7).other (Ne.symm hxy) _, (R_b_8.below hb9 hwb).other (by simp; omega) _, ?_, ?_, ?_⟩
              · have h := ho3.other (a := ⟨gx, 9, none⟩) hgx7 (.slice ad3 (m + 1) cp3)
                rw [← List.replicate_succ'] at h
                exact h
              · exact (O8.out.of_block (hb9.block g2 hg27)).other (by simp; omega) _
              · exact (HB8.trans (hb9.mono (by omega))).setCell (by simp; omega) _
              · simp at hsz9 ⊢; omega
            case measure => simp [intOf]; omega
          · obtain rfl : m = pm := by omega
            obtain ⟨g3, cp3, e, hg3, hO3, hd1, hd2⟩ := hO.out.own2 (by simp) hpm
            simp only [Value.slice.injEq, true_and] at e
            obtain ⟨rfl, rfl⟩ := e
            rw [List.take_of_length_le (by rw [HLP.out]; omega)] at hU
            have HO3 := Lib.hid hO3
            have i1 : (0 : Int) ≤ (k : Int) := by omega
            have i2 : (k : Int) < (m : Int) := by omega
            clear hO hlt hO3
            go_wp2_with fail
            refine (g_Fee_with B (List.replicate m B.rooms) _ _ _ _ _ _ _ (BlkIn.own K0.out (by (repeat' (first | (with_reducible exact Below.refl _ _) | (with_reducible assumption) | (with_reducible exact Bw.out (by with_reducible assumption)) | (with_reducible refine bw_alloc ?_ _) | (with_reducible refine bw_step ?_ (by with_reducible assumption)) | (with_reducible refine Below.alloc ?_ ?_ _) | (with_reducible refine Below.drew ?_) | (with_reducible refine below_drewN ?_ _) | (with_reducible refine Below.setCell ?_ ?_ _) | (with_reducible refine below_step ?_ (by with_reducible assumption) ?_) | (with_reducible exact Nat.le_refl _) | omega | (simp; omega) | (simp; done)))) HO3.out (by simp) hd1 hd2) 0 0 HALL.out.2 HALL.out.1).mono ?_
            rintro e w9 ⟨rfl, hb9⟩
            have R_x_9 : Row w9 (gx) [.int .i64 B.id, .int .i64 B.kind, .int .i64 B.rooms, .int .i64 B.fr, .int .i64 B.un, .slice ca cn cc, .int .i64 B.pn, .int .i64 B.pd, .int .i64 B.fee, .slice (some ⟨g3, 0, none⟩) m cp] := by (repeat' (first | (with_reducible assumption) | (with_reducible refine Row.new' _ _ _ (by first | rfl | (simp; done) | omega)) | (with_reducible refine Row.alloc ?_ _) | (with_reducible refine Row.drew ?_) | (with_reducible refine Row.drewN ?_ _) | (with_reducible refine Row.step ?_ (by with_reducible assumption)) | (with_reducible refine Row.set2' ?_ _ _; first | exact ⟨_, _, by with_reducible assumption⟩ | exact ⟨_, _, Row.alloc (by with_reducible assumption) _⟩ | exact ⟨_, _, Row.alloc (Row.alloc (by with_reducible assumption) _) _⟩) | (with_reducible refine Row.other ?_ (by first | omega | (simp; done) | (simp; omega)) _)))
            have c_x_0_9 := R_x_9.cell 0 rfl
            have c_x_1_9 := R_x_9.cell 1 rfl
            have c_x_2_9 := R_x_9.cell 2 rfl
            have c_x_3_9 := R_x_9.cell 3 rfl
            have c_x_4_9 := R_x_9.cell 4 rfl
            have c_x_5_9 := R_x_9.cell 5 rfl
            have c_x_6_9 := R_x_9.cell 6 rfl
            have c_x_7_9 := R_x_9.cell 7 rfl
            have c_x_8_9 := R_x_9.cell 8 rfl
            have c_x_9_9 := R_x_9.cell 9 rfl
            have l_x_9 := R_x_9.lt
            have R_y_9 : Row w9 (gy) [.int .i64 B.id, .int .i64 B.kind, .int .i64 B.rooms, .int .i64 B.fr, .int .i64 B.un, .slice ca cn cc, .int .i64 B.pn, .int .i64 B.pd, .int .i64 B.fee, .slice (some ⟨g2, 0, none⟩) m cp2] := by (repeat' (first | (with_reducible assumption) | (with_reducible refine Row.new' _ _ _ (by first | rfl | (simp; done) | omega)) | (with_reducible refine Row.alloc ?_ _) | (with_reducible refine Row.drew ?_) | (with_reducible refine Row.drewN ?_ _) | (with_reducible refine Row.step ?_ (by with_reducible assumption)) | (with_reducible refine Row.set2' ?_ _ _; first | exact ⟨_, _, by with_reducible assumption⟩ | exact ⟨_, _, Row.alloc (by with_reducible assumption) _⟩ | exact ⟨_, _, Row.alloc (Row.alloc (by with_reducible assumption) _) _⟩) | (with_reducible refine Row.other ?_ (by first | omega | (simp; done) | (simp; omega)) _)))
            have c_y_0_9 := R_y_9.cell 0 rfl
            have c_y_1_9 := R_y_9.cell 1 rfl
            have c_y_2_9 := R_y_9.cell 2 rfl
            have c_y_3_9 := R_y_9.cell 3 rfl
            have c_y_4_9 := R_y_9.cell 4 rfl
            have c_y_5_9 := R_y_9.cell 5 rfl
            have c_y_6_9 := R_y_9.cell 6 rfl
            have c_y_7_9 := R_y_9.cell 7 rfl
            have c_y_8_9 := R_y_9.cell 8 rfl
            have c_y_9_9 := R_y_9.cell 9 rfl
            have z_y_0_9 := R_y_9.frozen 0
            have z_y_1_9 := R_y_9.frozen 1
            have z_y_2_9 := R_y_9.frozen 2
            have z_y_3_9 := R_y_9.frozen 3
            have z_y_4_9 := R_y_9.frozen 4
            have z_y_5_9 := R_y_9.frozen 5
            have z_y_6_9 := R_y_9.frozen 6
            have z_y_7_9 := R_y_9.frozen 7
            have z_y_8_9 := R_y_9.frozen 8
            have z_y_9_9 := R_y_9.frozen 9
            have l_y_9 := R_y_9.lt
            have R_b_9 : Row w9 (w.heap.size) [.int .i64 B.id, .int .i64 B.kind, .int .i64 B.rooms, .int .i64 B.fr, .int .i64 B.un, .slice ca cn cc, .int .i64 B.pn, .int .i64 B.pd, .int .i64 B.fee, .slice (some ⟨bb, off, none⟩) m pc] := by (repeat' (first | (with_reducible assumption) | (with_reducible refine Row.new' _ _ _ (by first | rfl | (simp; done) | omega)) | (with_reducible refine Row.alloc ?_ _) | (with_reducible refine Row.drew ?_) | (with_reducible refine Row.drewN ?_ _) | (with_reducible refine Row.step ?_ (by with_reducible assumption)) | (with_reducible refine Row.set2' ?_ _ _; first | exact ⟨_, _, by with_reducible assumption⟩ | exact ⟨_, _, Row.alloc (by with_reducible assumption) _⟩ | exact ⟨_, _, Row.alloc (Row.alloc (by with_reducible assumption) _) _⟩) | (with_reducible refine Row.other ?_ (by first | omega | (simp; done) | (simp; omega)) _)))
            have c_b_0_9 := R_b_9.cell 0 rfl
            have c_b_1_9 := R_b_9.cell 1 rfl
            have c_b_2_9 := R_b_9.cell 2 rfl
            have c_b_3_9 := R_b_9.cell 3 rfl
            have c_b_4_9 := R_b_9.cell 4 rfl
            have c_b_5_9 := R_b_9.cell 5 rfl
            have c_b_6_9 := R_b_9.cell 6 rfl
            have c_b_7_9 := R_b_9.cell 7 rfl
            have c_b_8_9 := R_b_9.cell 8 rfl
            have c_b_9_9 := R_b_9.cell 9 rfl
            have l_b_9 := R_b_9.lt
            have HB9 : Below w.heap.size w w9 := by (repeat' (first | (with_reducible exact Below.refl _ _) | (with_reducible assumption) | (with_reducible exact Bw.out (by with_reducible assumption)) | (with_reducible refine bw_alloc ?_ _) | (with_reducible refine bw_step ?_ (by with_reducible assumption)) | (with_reducible refine Below.alloc ?_ ?_ _) | (with_reducible refine Below.drew ?_) | (with_reducible refine below_drewN ?_ _) | (with_reducible refine Below.setCell ?_ ?_ _) | (with_reducible refine below_step ?_ (by with_reducible assumption) ?_) | (with_reducible exact Nat.le_refl _) | omega | (simp; omega) | (simp; done)))
            have O9 : Hid (OwnI w9 g2 B.picked) := O8.out.step hb9
            have gk9 : w9.cell? ⟨g2, k, none⟩ = some (.int .i64 z) := by have := O9.out.cell (i := k) (by rw [HLP.out]; exact hkp); rwa [hz] at this
            have hzb := hz2
            clear O8 HO3 hz2
            have hE03 := feE_or HV.out
            rw [HE.out] at hE03
            have hX2 := feV_in HV.out
            rw [HX.out] at hX2
            have HU3 := Lib.hid hU
            have hU0 : 0 ≤ U := by rw [← hU]; exact hsum.1
            clear hsum hU
            rcases hE03 with rfl | rfl
            · by_cases hfp : 0 < B.fee
              · by_cases hXp : 0 < X
                · obtain ⟨O, P, hdiv, hrem, hOP, hO0, hP0, hP1, hs1, hs2⟩ := fee_pos HV.out HE.out HX.out hfp hXp
                  rw [HU3.out] at hOP
                  rw [HLP.out] at hs1 hs2
                  obtain ⟨_, p1, p2, p3, p4⟩ := partB_in HOK.out.part
                  obtain ⟨N, hN⟩ : ∃ N, B.rooms * (m : Int) = N := ⟨_, rfl⟩
                  have hN0 : 0 ≤ N := by rw [← hN]; exact Int.mul_nonneg (by omega) (by omega)
                  have hN1 : N ≤ 400 * 366 := by rw [← hN]; exact Int.mul_le_mul hr1 (by omega) (by omega) (by omega)
                  rw [hN] at hs1 hs2
                  obtain ⟨D1, hD1⟩ : ∃ D, P * B.pd = D := ⟨_, rfl⟩
                  obtain ⟨D2, hD2⟩ : ∃ D, N * B.pn = D := ⟨_, rfl⟩
                  obtain ⟨D3, hD3⟩ : ∃ D, (P - 1) * B.pd = D := ⟨_, rfl⟩
                  have k1 : 0 ≤ D1 := by rw [← hD1]; exact Int.mul_nonneg hP0 (by omega)
                  have k2 : D1 ≤ 146400 * 1000000 := by rw [← hD1]; exact Int.mul_le_mul hP1 p4 (by omega) (by omega)
                  have k3 : 0 ≤ D2 := by rw [← hD2]; exact Int.mul_nonneg hN0 p1
                  have k4 : D2 ≤ (400 * 366) * 1000000 := by rw [← hD2]; exact Int.mul_le_mul hN1 (by omega) p1 (by omega)
                  have k5 : D3 = D1 - B.pd := by rw [← hD3, ← hD1, Int.sub_mul, Int.one_mul]
                  rw [hD1, hD2] at hs1
                  rw [hD3, hD2] at hs2
                  have HW1 : Hid (IntKind.i64.wrap O = O) := IntWalk.i64_in _ (by omega)
                  have HW2 : Hid (IntKind.i64.wrap P = P) := IntWalk.i64_in _ (by omega)
                  have HW3 : Hid (IntKind.i64.wrap N = N) := IntWalk.i64_in _ (by omega)
                  have HW4 : Hid (IntKind.i64.wrap D1 = D1) := IntWalk.i64_in _ (by omega)
                  have HW5 : Hid (IntKind.i64.wrap D2 = D2) := IntWalk.i64_in _ (by omega)
                  have HW6 : Hid (IntKind.i64.wrap D3 = D3) := IntWalk.i64_in _ (by omega)
                  have HW7 : Hid (IntKind.i64.wrap (P - 1) = P - 1) := IntWalk.i64_in _ (by omega)
                  have hfz : (B.fee == 0) = false := by simp; omega
                  clear k1 k2 k3 k4 k5 hN0 hN1 hP0 hP1 hO0 p1 p2 p3 p4
                  go_wp2_with fail
                  have v1 := HW1.out
                  have v2 := HW2.out
                  have v3 := HW3.out
                  go_quiet (fail)
                  clear v1 v2 v3
                  generalize hwq : w9.drewN _ = w10
                  have hb10 : Below w9.heap.size w9 w10 := by rw [← hwq]; (repeat' (first | (with_reducible exact Below.refl _ _) | (with_reducible assumption) | (with_reducible exact Bw.out (by with_reducible assumption)) | (with_reducible refine bw_alloc ?_ _) | (with_reducible refine bw_step ?_ (by with_reducible assumption)) | (with_reducible refine Below.alloc ?_ ?_ _) | (with_reducible refine Below.drew ?_) | (with_reducible refine below_drewN ?_ _) | (with_reducible refine Below.setCell ?_ ?_ _) | (with_reducible refine below_step ?_ (by with_reducible assumption) ?_) | (with_reducible exact Nat.le_refl _) | omega | (simp; omega) | (simp; done)))
                  clear hwq
                  have R_x_10 : Row w10 (gx) [.int .i64 B.id, .int .i64 B.kind, .int .i64 B.rooms, .int .i64 B.fr, .int .i64 B.un, .slice ca cn cc, .int .i64 B.pn, .int .i64 B.pd, .int .i64 B.fee, .slice (some ⟨g3, 0, none⟩) m cp] := by (repeat' (first | (with_reducible assumption) | (with_reducible refine Row.new' _ _ _ (by first | rfl | (simp; done) | omega)) | (with_reducible refine Row.alloc ?_ _) | (with_reducible refine Row.drew ?_) | (with_reducible refine Row.drewN ?_ _) | (with_reducible refine Row.step ?_ (by with_reducible assumption)) | (with_reducible refine Row.set2' ?_ _ _; first | exact ⟨_, _, by with_reducible assumption⟩ | exact ⟨_, _, Row.alloc (by with_reducible assumption) _⟩ | exact ⟨_, _, Row.alloc (Row.alloc (by with_reducible assumption) _) _⟩) | (with_reducible refine Row.other ?_ (by first | omega | (simp; done) | (simp; omega)) _)))
                  have c_x_0_10 := R_x_10.cell 0 rfl
                  have c_x_1_10 := R_x_10.cell 1 rfl
                  have c_x_2_10 := R_x_10.cell 2 rfl
                  have c_x_3_10 := R_x_10.cell 3 rfl
                  have c_x_4_10 := R_x_10.cell 4 rfl
                  have c_x_5_10 := R_x_10.cell 5 rfl
                  have c_x_6_10 := R_x_10.cell 6 rfl
                  have c_x_7_10 := R_x_10.cell 7 rfl
                  have c_x_8_10 := R_x_10.cell 8 rfl
                  have c_x_9_10 := R_x_10.cell 9 rfl
                  have l_x_10 := R_x_10.lt
                  have R_y_10 : Row w10 (gy) [.int .i64 B.id, .int .i64 B.kind, .int .i64 B.rooms, .int .i64 B.fr, .int .i64 B.un, .slice ca cn cc, .int .i64 B.pn, .int .i64 B.pd, .int .i64 B.fee, .slice (some ⟨g2, 0, none⟩) m cp2] := by (repeat' (first | (with_reducible assumption) | (with_reducible refine Row.new' _ _ _ (by first | rfl | (simp; done) | omega)) | (with_reducible refine Row.alloc ?_ _) | (with_reducible refine Row.drew ?_) | (with_reducible refine Row.drewN ?_ _) | (with_reducible refine Row.step ?_ (by with_reducible assumption)) | (with_reducible refine Row.set2' ?_ _ _; first | exact ⟨_, _, by with_reducible assumption⟩ | exact ⟨_, _, Row.alloc (by with_reducible assumption) _⟩ | exact ⟨_, _, Row.alloc (Row.alloc (by with_reducible assumption) _) _⟩) | (with_reducible refine Row.other ?_ (by first | omega | (simp; done) | (simp; omega)) _)))
                  have c_y_0_10 := R_y_10.cell 0 rfl
                  have c_y_1_10 := R_y_10.cell 1 rfl
                  have c_y_2_10 := R_y_10.cell 2 rfl
                  have c_y_3_10 := R_y_10.cell 3 rfl
                  have c_y_4_10 := R_y_10.cell 4 rfl
                  have c_y_5_10 := R_y_10.cell 5 rfl
                  have c_y_6_10 := R_y_10.cell 6 rfl
                  have c_y_7_10 := R_y_10.cell 7 rfl
                  have c_y_8_10 := R_y_10.cell 8 rfl
                  have c_y_9_10 := R_y_10.cell 9 rfl
                  have z_y_0_10 := R_y_10.frozen 0
                  have z_y_1_10 := R_y_10.frozen 1
                  have z_y_2_10 := R_y_10.frozen 2
                  have z_y_3_10 := R_y_10.frozen 3
                  have z_y_4_10 := R_y_10.frozen 4
                  have z_y_5_10 := R_y_10.frozen 5
                  have z_y_6_10 := R_y_10.frozen 6
                  have z_y_7_10 := R_y_10.frozen 7
                  have z_y_8_10 := R_y_10.frozen 8
                  have z_y_9_10 := R_y_10.frozen 9
                  have l_y_10 := R_y_10.lt
                  have R_b_10 : Row w10 (w.heap.size) [.int .i64 B.id, .int .i64 B.kind, .int .i64 B.rooms, .int .i64 B.fr, .int .i64 B.un, .slice ca cn cc, .int .i64 B.pn, .int .i64 B.pd, .int .i64 B.fee, .slice (some ⟨bb, off, none⟩) m pc] := by (repeat' (first | (with_reducible assumption) | (with_reducible refine Row.new' _ _ _ (by first | rfl | (simp; done) | omega)) | (with_reducible refine Row.alloc ?_ _) | (with_reducible refine Row.drew ?_) | (with_reducible refine Row.drewN ?_ _) | (with_reducible refine Row.step ?_ (by with_reducible assumption)) | (with_reducible refine Row.set2' ?_ _ _; first | exact ⟨_, _, by with_reducible assumption⟩ | exact ⟨_, _, Row.alloc (by with_reducible assumption) _⟩ | exact ⟨_, _, Row.alloc (Row.alloc (by with_reducible assumption) _) _⟩) | (with_reducible refine Row.other ?_ (by first | omega | (simp; done) | (simp; omega)) _)))
                  have c_b_0_10 := R_b_10.cell 0 rfl
                  have c_b_1_10 := R_b_10.cell 1 rfl
                  have c_b_2_10 := R_b_10.cell 2 rfl
                  have c_b_3_10 := R_b_10.cell 3 rfl
                  have c_b_4_10 := R_b_10.cell 4 rfl
                  have c_b_5_10 := R_b_10.cell 5 rfl
                  have c_b_6_10 := R_b_10.cell 6 rfl
                  have c_b_7_10 := R_b_10.cell 7 rfl
                  have c_b_8_10 := R_b_10.cell 8 rfl
                  have c_b_9_10 := R_b_10.cell 9 rfl
                  have l_b_10 := R_b_10.lt
                  have HB10 : Below w.heap.size w w10 := by (repeat' (first | (with_reducible exact Below.refl _ _) | (with_reducible assumption) | (with_reducible exact Bw.out (by with_reducible assumption)) | (with_reducible refine bw_alloc ?_ _) | (with_reducible refine bw_step ?_ (by with_reducible assumption)) | (with_reducible refine Below.alloc ?_ ?_ _) | (with_reducible refine Below.drew ?_) | (with_reducible refine below_drewN ?_ _) | (with_reducible refine Below.setCell ?_ ?_ _) | (with_reducible refine below_step ?_ (by with_reducible assumption) ?_) | (with_reducible exact Nat.le_refl _) | omega | (simp; omega) | (simp; done)))
                  clear R_x_9 c_x_0_9 c_x_1_9 c_x_2_9 c_x_3_9 c_x_4_9 c_x_5_9 c_x_6_9 c_x_7_9 c_x_8_9 c_x_9_9 R_y_9 c_y_0_9 c_y_1_9 c_y_2_9 c_y_3_9 c_y_4_9 c_y_5_9 c_y_6_9 c_y_7_9 c_y_8_9 c_y_9_9 z_y_0_9 z_y_1_9 z_y_2_9 z_y_3_9 z_y_4_9 z_y_5_9 z_y_6_9 z_y_7_9 z_y_8_9 z_y_9_9 R_b_9 c_b_0_9 c_b_1_9 c_b_2_9 c_b_3_9 c_b_4_9 c_b_5_9 c_b_6_9 c_b_7_9 c_b_8_9 c_b_9_9 hb9 HB9
                  have O10 : Hid (OwnI w10 g2 B.picked) := O9.out.step hb10
                  have gk10 : w10.cell? ⟨g2, k, none⟩ = some (.int .i64 z) := by have := O10.out.cell (i := k) (by rw [HLP.out]; exact hkp); rwa [hz] at this
                  have v4 := HW4.out
                  have v5 := HW5.out
                  have v6 := HW6.out
                  have v7 := HW7.out
                  go_upto_region 19 with fail
                  clear v4 v5 v6 v7 HW1 HW2 HW3 HW4 HW5 HW6 HW7 hdiv hrem hOP hN hD1 hD2 hD3 hs1 hs2 hfz gk9
                  by_cases hzr : z = B.rooms
                  · have hzt : (z == B.rooms) = true := by simpa using hzr
                    clear hzr
                    go_wp2_with fail
                    go_quiet (fail)
                    generalize hwq : w10.drewN _ = w11
                    have hb11 : Below w10.heap.size w10 w11 := by rw [← hwq]; (repeat' (first | (with_reducible exact Below.refl _ _) | (with_reducible assumption) | (with_reducible exact Bw.out (by with_reducible assumption)) | (with_reducible refine bw_alloc ?_ _) | (with_reducible refine bw_step ?_ (by with_reducible assumption)) | (with_reducible refine Below.alloc ?_ ?_ _) | (with_reducible refine Below.drew ?_) | (with_reducible refine below_drewN ?_ _) | (with_reducible refine Below.setCell ?_ ?_ _) | (with_reducible refine below_step ?_ (by with_reducible assumption) ?_) | (with_reducible exact Nat.le_refl _) | omega | (simp; omega) | (simp; done)))
                    clear hwq
                    have R_x_11 : Row w11 (gx) [.int .i64 B.id, .int .i64 B.kind, .int .i64 B.rooms, .int .i64 B.fr, .int .i64 B.un, .slice ca cn cc, .int .i64 B.pn, .int .i64 B.pd, .int .i64 B.fee, .slice (some ⟨g3, 0, none⟩) m cp] := by (repeat' (first | (with_reducible assumption) | (with_reducible refine Row.new' _ _ _ (by first | rfl | (simp; done) | omega)) | (with_reducible refine Row.alloc ?_ _) | (with_reducible refine Row.drew ?_) | (with_reducible refine Row.drewN ?_ _) | (with_reducible refine Row.step ?_ (by with_reducible assumption)) | (with_reducible refine Row.set2' ?_ _ _; first | exact ⟨_, _, by with_reducible assumption⟩ | exact ⟨_, _, Row.alloc (by with_reducible assumption) _⟩ | exact ⟨_, _, Row.alloc (Row.alloc (by with_reducible assumption) _) _⟩) | (with_reducible refine Row.other ?_ (by first | omega | (simp; done) | (simp; omega)) _)))
                    have c_x_0_11 := R_x_11.cell 0 rfl
                    have c_x_1_11 := R_x_11.cell 1 rfl
                    have c_x_2_11 := R_x_11.cell 2 rfl
                    have c_x_3_11 := R_x_11.cell 3 rfl
                    have c_x_4_11 := R_x_11.cell 4 rfl
                    have c_x_5_11 := R_x_11.cell 5 rfl
                    have c_x_6_11 := R_x_11.cell 6 rfl
                    have c_x_7_11 := R_x_11.cell 7 rfl
                    have c_x_8_11 := R_x_11.cell 8 rfl
                    have c_x_9_11 := R_x_11.cell 9 rfl
                    have l_x_11 := R_x_11.lt
                    have R_y_11 : Row w11 (gy) [.int .i64 B.id, .int .i64 B.kind, .int .i64 B.rooms, .int .i64 B.fr, .int .i64 B.un, .slice ca cn cc, .int .i64 B.pn, .int .i64 B.pd, .int .i64 B.fee, .slice (some ⟨g2, 0, none⟩) m cp2] := by (repeat' (first | (with_reducible assumption) | (with_reducible refine Row.new' _ _ _ (by first | rfl | (simp; done) | omega)) | (with_reducible refine Row.alloc ?_ _) | (with_reducible refine Row.drew ?_) | (with_reducible refine Row.drewN ?_ _) | (with_reducible refine Row.step ?_ (by with_reducible assumption)) | (with_reducible refine Row.set2' ?_ _ _; first | exact ⟨_, _, by with_reducible assumption⟩ | exact ⟨_, _, Row.alloc (by with_reducible assumption) _⟩ | exact ⟨_, _, Row.alloc (Row.alloc (by with_reducible assumption) _) _⟩) | (with_reducible refine Row.other ?_ (by first | omega | (simp; done) | (simp; omega)) _)))
                    have c_y_0_11 := R_y_11.cell 0 rfl
                    have c_y_1_11 := R_y_11.cell 1 rfl
                    have c_y_2_11 := R_y_11.cell 2 rfl
                    have c_y_3_11 := R_y_11.cell 3 rfl
                    have c_y_4_11 := R_y_11.cell 4 rfl
                    have c_y_5_11 := R_y_11.cell 5 rfl
                    have c_y_6_11 := R_y_11.cell 6 rfl
                    have c_y_7_11 := R_y_11.cell 7 rfl
                    have c_y_8_11 := R_y_11.cell 8 rfl
                    have c_y_9_11 := R_y_11.cell 9 rfl
                    have z_y_0_11 := R_y_11.frozen 0
                    have z_y_1_11 := R_y_11.frozen 1
                    have z_y_2_11 := R_y_11.frozen 2
                    have z_y_3_11 := R_y_11.frozen 3
                    have z_y_4_11 := R_y_11.frozen 4
                    have z_y_5_11 := R_y_11.frozen 5
                    have z_y_6_11 := R_y_11.frozen 6
                    have z_y_7_11 := R_y_11.frozen 7
                    have z_y_8_11 := R_y_11.frozen 8
                    have z_y_9_11 := R_y_11.frozen 9
                    have l_y_11 := R_y_11.lt
                    have R_b_11 : Row w11 (w.heap.size) [.int .i64 B.id, .int .i64 B.kind, .int .i64 B.rooms, .int .i64 B.fr, .int .i64 B.un, .slice ca cn cc, .int .i64 B.pn, .int .i64 B.pd, .int .i64 B.fee, .slice (some ⟨bb, off, none⟩) m pc] := by (repeat' (first | (with_reducible assumption) | (with_reducible refine Row.new' _ _ _ (by first | rfl | (simp; done) | omega)) | (with_reducible refine Row.alloc ?_ _) | (with_reducible refine Row.drew ?_) | (with_reducible refine Row.drewN ?_ _) | (with_reducible refine Row.step ?_ (by with_reducible assumption)) | (with_reducible refine Row.set2' ?_ _ _; first | exact ⟨_, _, by with_reducible assumption⟩ | exact ⟨_, _, Row.alloc (by with_reducible assumption) _⟩ | exact ⟨_, _, Row.alloc (Row.alloc (by with_reducible assumption) _) _⟩) | (with_reducible refine Row.other ?_ (by first | omega | (simp; done) | (simp; omega)) _)))
                    have c_b_0_11 := R_b_11.cell 0 rfl
                    have c_b_1_11 := R_b_11.cell 1 rfl
                    have c_b_2_11 := R_b_11.cell 2 rfl
                    have c_b_3_11 := R_b_11.cell 3 rfl
                    have c_b_4_11 := R_b_11.cell 4 rfl
                    have c_b_5_11 := R_b_11.cell 5 rfl
                    have c_b_6_11 := R_b_11.cell 6 rfl
                    have c_b_7_11 := R_b_11.cell 7 rfl
                    have c_b_8_11 := R_b_11.cell 8 rfl
                    have c_b_9_11 := R_b_11.cell 9 rfl
                    have l_b_11 := R_b_11.lt
                    have HB11 : Below w.heap.size w w11 := by (repeat' (first | (with_reducible exact Below.refl _ _) | (with_reducible assumption) | (with_reducible exact Bw.out (by with_reducible assumption)) | (with_reducible refine bw_alloc ?_ _) | (with_reducible refine bw_step ?_ (by with_reducible assumption)) | (with_reducible refine Below.alloc ?_ ?_ _) | (with_reducible refine Below.drew ?_) | (with_reducible refine below_drewN ?_ _) | (with_reducible refine Below.setCell ?_ ?_ _) | (with_reducible refine below_step ?_ (by with_reducible assumption) ?_) | (with_reducible exact Nat.le_refl _) | omega | (simp; omega) | (simp; done)))
                    clear R_x_10 c_x_0_10 c_x_1_10 c_x_2_10 c_x_3_10 c_x_4_10 c_x_5_10 c_x_6_10 c_x_7_10 c_x_8_10 c_x_9_10 R_y_10 c_y_0_10 c_y_1_10 c_y_2_10 c_y_3_10 c_y_4_10 c_y_5_10 c_y_6_10 c_y_7_10 c_y_8_10 c_y_9_10 z_y_0_10 z_y_1_10 z_y_2_10 z_y_3_10 z_y_4_10 z_y_5_10 z_y_6_10 z_y_7_10 z_y_8_10 z_y_9_10 R_b_10 c_b_0_10 c_b_1_10 c_b_2_10 c_b_3_10 c_b_4_10 c_b_5_10 c_b_6_10 c_b_7_10 c_b_8_10 c_b_9_10 hb10 HB10
                    have O11 : Hid (OwnI w11 g2 B.picked) := O10.out.step hb11
                    have gk11 : w11.cell? ⟨g2, k, none⟩ = some (.int .i64 z) := by have := O11.out.cell (i := k) (by rw [HLP.out]; exact hkp); rwa [hz] at this
                    have gz11 := O11.out.frozen k
                    go_wp2_with fail
                    go_ret
                    refine ⟨(by first | rfl | exact ret_bool (by first | rfl | (simp; done) | (simp; omega))), ?_⟩
                    (repeat' (first | (with_reducible exact Below.refl _ _) | (with_reducible assumption) | (with_reducible exact Bw.out (by with_reducible assumption)) | (with_reducible refine bw_alloc ?_ _) | (with_reducible refine bw_step ?_ (by with_reducible assumption)) | (with_reducible refine Below.alloc ?_ ?_ _) | (with_reducible refine Below.drew ?_) | (with_reducible refine below_drewN ?_ _) | (with_reducible refine Below.setCell ?_ ?_ _) | (with_reducible refine below_step ?_ (by with_reducible assumption) ?_) | (with_reducible exact Nat.le_refl _) | omega | (simp; omega) | (simp; done)))
                  · have hzr2 : z < B.rooms := by omega
                    have hzn : (z == B.rooms) = false := by simpa using hzr
                    clear hzr
                    go_wp2_with fail
                    go_quiet (fail)
                    generalize hwq : w10.drewN _ = w11
                    have hb11 : Below w10.heap.size w10 w11 := by rw [← hwq]; (repeat' (first | (with_reducible exact Below.refl _ _) | (with_reducible assumption) | (with_reducible exact Bw.out (by with_reducible assumption)) | (with_reducible refine bw_alloc ?_ _) | (with_reducible refine bw_step ?_ (by with_reducible assumption)) | (with_reducible refine Below.alloc ?_ ?_ _) | (with_reducible refine Below.drew ?_) | (with_reducible refine below_drewN ?_ _) | (with_reducible refine Below.setCell ?_ ?_ _) | (with_reducible refine below_step ?_ (by with_reducible assumption) ?_) | (with_reducible exact Nat.le_refl _) | omega | (simp; omega) | (simp; done)))
                    clear hwq
                    have R_x_11 : Row w11 (gx) [.int .i64 B.id, .int .i64 B.kind, .int .i64 B.rooms, .int .i64 B.fr, .int .i64 B.un, .slice ca cn cc, .int .i64 B.pn, .int .i64 B.pd, .int .i64 B.fee, .slice (some ⟨g3, 0, none⟩) m cp] := by (repeat' (first | (with_reducible assumption) | (with_reducible refine Row.new' _ _ _ (by first | rfl | (simp; done) | omega)) | (with_reducible refine Row.alloc ?_ _) | (with_reducible refine Row.drew ?_) | (with_reducible refine Row.drewN ?_ _) | (with_reducible refine Row.step ?_ (by with_reducible assumption)) | (with_reducible refine Row.set2' ?_ _ _; first | exact ⟨_, _, by with_reducible assumption⟩ | exact ⟨_, _, Row.alloc (by with_reducible assumption) _⟩ | exact ⟨_, _, Row.alloc (Row.alloc (by with_reducible assumption) _) _⟩) | (with_reducible refine Row.other ?_ (by first | omega | (simp; done) | (simp; omega)) _)))
                    have c_x_0_11 := R_x_11.cell 0 rfl
                    have c_x_1_11 := R_x_11.cell 1 rfl
                    have c_x_2_11 := R_x_11.cell 2 rfl
                    have c_x_3_11 := R_x_11.cell 3 rfl
                    have c_x_4_11 := R_x_11.cell 4 rfl
                    have c_x_5_11 := R_x_11.cell 5 rfl
                    have c_x_6_11 := R_x_11.cell 6 rfl
                    have c_x_7_11 := R_x_11.cell 7 rfl
                    have c_x_8_11 := R_x_11.cell 8 rfl
                    have c_x_9_11 := R_x_11.cell 9 rfl
                    have l_x_11 := R_x_11.lt
                    have R_y_11 : Row w11 (gy) [.int .i64 B.id, .int .i64 B.kind, .int .i64 B.rooms, .int .i64 B.fr, .int .i64 B.un, .slice ca cn cc, .int .i64 B.pn, .int .i64 B.pd, .int .i64 B.fee, .slice (some ⟨g2, 0, none⟩) m cp2] := by (repeat' (first | (with_reducible assumption) | (with_reducible refine Row.new' _ _ _ (by first | rfl | (simp; done) | omega)) | (with_reducible refine Row.alloc ?_ _) | (with_reducible refine Row.drew ?_) | (with_reducible refine Row.drewN ?_ _) | (with_reducible refine Row.step ?_ (by with_reducible assumption)) | (with_reducible refine Row.set2' ?_ _ _; first | exact ⟨_, _, by with_reducible assumption⟩ | exact ⟨_, _, Row.alloc (by with_reducible assumption) _⟩ | exact ⟨_, _, Row.alloc (Row.alloc (by with_reducible assumption) _) _⟩) | (with_reducible refine Row.other ?_ (by first | omega | (simp; done) | (simp; omega)) _)))
                    have c_y_0_11 := R_y_11.cell 0 rfl
                    have c_y_1_11 := R_y_11.cell 1 rfl
                    have c_y_2_11 := R_y_11.cell 2 rfl
                    have c_y_3_11 := R_y_11.cell 3 rfl
                    have c_y_4_11 := R_y_11.cell 4 rfl
                    have c_y_5_11 := R_y_11.cell 5 rfl
                    have c_y_6_11 := R_y_11.cell 6 rfl
                    have c_y_7_11 := R_y_11.cell 7 rfl
                    have c_y_8_11 := R_y_11.cell 8 rfl
                    have c_y_9_11 := R_y_11.cell 9 rfl
                    have z_y_0_11 := R_y_11.frozen 0
                    have z_y_1_11 := R_y_11.frozen 1
                    have z_y_2_11 := R_y_11.frozen 2
                    have z_y_3_11 := R_y_11.frozen 3
                    have z_y_4_11 := R_y_11.frozen 4
                    have z_y_5_11 := R_y_11.frozen 5
                    have z_y_6_11 := R_y_11.frozen 6
                    have z_y_7_11 := R_y_11.frozen 7
                    have z_y_8_11 := R_y_11.frozen 8
                    have z_y_9_11 := R_y_11.frozen 9
                    have l_y_11 := R_y_11.lt
                    have R_b_11 : Row w11 (w.heap.size) [.int .i64 B.id, .int .i64 B.kind, .int .i64 B.rooms, .int .i64 B.fr, .int .i64 B.un, .slice ca cn cc, .int .i64 B.pn, .int .i64 B.pd, .int .i64 B.fee, .slice (some ⟨bb, off, none⟩) m pc] := by (repeat' (first | (with_reducible assumption) | (with_reducible refine Row.new' _ _ _ (by first | rfl | (simp; done) | omega)) | (with_reducible refine Row.alloc ?_ _) | (with_reducible refine Row.drew ?_) | (with_reducible refine Row.drewN ?_ _) | (with_reducible refine Row.step ?_ (by with_reducible assumption)) | (with_reducible refine Row.set2' ?_ _ _; first | exact ⟨_, _, by with_reducible assumption⟩ | exact ⟨_, _, Row.alloc (by with_reducible assumption) _⟩ | exact ⟨_, _, Row.alloc (Row.alloc (by with_reducible assumption) _) _⟩) | (with_reducible refine Row.other ?_ (by first | omega | (simp; done) | (simp; omega)) _)))
                    have c_b_0_11 := R_b_11.cell 0 rfl
                    have c_b_1_11 := R_b_11.cell 1 rfl
                    have c_b_2_11 := R_b_11.cell 2 rfl
                    have c_b_3_11 := R_b_11.cell 3 rfl
                    have c_b_4_11 := R_b_11.cell 4 rfl
                    have c_b_5_11 := R_b_11.cell 5 rfl
                    have c_b_6_11 := R_b_11.cell 6 rfl
                    have c_b_7_11 := R_b_11.cell 7 rfl
                    have c_b_8_11 := R_b_11.cell 8 rfl
                    have c_b_9_11 := R_b_11.cell 9 rfl
                    have l_b_11 := R_b_11.lt
                    have HB11 : Below w.heap.size w w11 := by (repeat' (first | (with_reducible exact Below.refl _ _) | (with_reducible assumption) | (with_reducible exact Bw.out (by with_reducible assumption)) | (with_reducible refine bw_alloc ?_ _) | (with_reducible refine bw_step ?_ (by with_reducible assumption)) | (with_reducible refine Below.alloc ?_ ?_ _) | (with_reducible refine Below.drew ?_) | (with_reducible refine below_drewN ?_ _) | (with_reducible refine Below.setCell ?_ ?_ _) | (with_reducible refine below_step ?_ (by with_reducible assumption) ?_) | (with_reducible exact Nat.le_refl _) | omega | (simp; omega) | (simp; done)))
                    clear R_x_10 c_x_0_10 c_x_1_10 c_x_2_10 c_x_3_10 c_x_4_10 c_x_5_10 c_x_6_10 c_x_7_10 c_x_8_10 c_x_9_10 R_y_10 c_y_0_10 c_y_1_10 c_y_2_10 c_y_3_10 c_y_4_10 c_y_5_10 c_y_6_10 c_y_7_10 c_y_8_10 c_y_9_10 z_y_0_10 z_y_1_10 z_y_2_10 z_y_3_10 z_y_4_10 z_y_5_10 z_y_6_10 z_y_7_10 z_y_8_10 z_y_9_10 R_b_10 c_b_0_10 c_b_1_10 c_b_2_10 c_b_3_10 c_b_4_10 c_b_5_10 c_b_6_10 c_b_7_10 c_b_8_10 c_b_9_10 hb10 HB10
                    have O11 : Hid (OwnI w11 g2 B.picked) := O10.out.step hb11
                    have gk11 : w11.cell? ⟨g2, k, none⟩ = some (.int .i64 z) := by have := O11.out.cell (i := k) (by rw [HLP.out]; exact hkp); rwa [hz] at this
                    have gz11 := O11.out.frozen k
                    have hwz : IntKind.i64.wrap (z + 1) = z + 1 := IntWalk.i64_in _ (by omega)
                    go_upto_region 23 with fail
                    clear hwz
                    obtain ⟨w12, hw12⟩ : ∃ wd, w11.setCell ⟨g2, k, none⟩ (.int .i64 (z + 1)) = wd := ⟨_, rfl⟩
                    rw [hw12]
                    have R_y_12 : Row w12 gy [.int .i64 B.id, .int .i64 B.kind, .int .i64 B.rooms, .int .i64 B.fr, .int .i64 B.un, .slice ca cn cc, .int .i64 B.pn, .int .i64 B.pd, .int .i64 B.fee, .slice (some ⟨g2, 0, none⟩) m cp2] := by rw [← hw12]; exact R_y_11.other (by simp; omega) _
                    have R_b_12 : Row w12 w.heap.size [.int .i64 B.id, .int .i64 B.kind, .int .i64 B.rooms, .int .i64 B.fr, .int .i64 B.un, .slice ca cn cc, .int .i64 B.pn, .int .i64 B.pd, .int .i64 B.fee, .slice (some ⟨bb, off, none⟩) m pc] := by rw [← hw12]; exact R_b_11.other (by simp; omega) _
                    have O12 : Hid (OwnI w12 g2 (B.picked.set k (z + 1))) := by rw [← hw12]; exact O11.out.set (by rw [HLP.out]; exact hkp) _
                    have HB12 : Below w.heap.size w w12 := by rw [← hw12]; exact HB11.setCell (by simp; omega) _
                    clear hw12 R_x_11 R_y_11 R_b_11 gk11 gz11
                    have c_y_0_12 := R_y_12.cell 0 rfl
                    have c_y_1_12 := R_y_12.cell 1 rfl
                    have c_y_2_12 := R_y_12.cell 2 rfl
                    have c_y_3_12 := R_y_12.cell 3 rfl
                    have c_y_4_12 := R_y_12.cell 4 rfl
                    have c_y_5_12 := R_y_12.cell 5 rfl
                    have c_y_6_12 := R_y_12.cell 6 rfl
                    have c_y_7_12 := R_y_12.cell 7 rfl
                    have c_y_8_12 := R_y_12.cell 8 rfl
                    have c_y_9_12 := R_y_12.cell 9 rfl
                    have l_y_12 := R_y_12.lt
                    have c_b_0_12 := R_b_12.cell 0 rfl
                    have c_b_1_12 := R_b_12.cell 1 rfl
                    have c_b_2_12 := R_b_12.cell 2 rfl
                    have c_b_3_12 := R_b_12.cell 3 rfl
                    have c_b_4_12 := R_b_12.cell 4 rfl
                    have c_b_5_12 := R_b_12.cell 5 rfl
                    have c_b_6_12 := R_b_12.cell 6 rfl
                    have c_b_7_12 := R_b_12.cell 7 rfl
                    have c_b_8_12 := R_b_12.cell 8 rfl
                    have c_b_9_12 := R_b_12.cell 9 rfl
                    have l_b_12 := R_b_12.lt
                    obtain ⟨Y, hY⟩ : ∃ Y, feV (withB B (B.picked.set k (z + 1))) = Y := ⟨_, rfl⟩
                    obtain ⟨M, hM⟩ : ∃ M, feE (withB B (B.picked.set k (z + 1))) = M := ⟨_, rfl⟩
                    have HY := Lib.hid hY
                    have HM := Lib.hid hM
                    obtain ⟨m1, m2⟩ := fee_more HV.out (by rw [HLP.out]; exact hkp) hz hzr2
                    have hY2 := feV_in (more_ok HV.out (by rw [HLP.out]; exact hkp) hz hzr2)
                    rw [hM] at m1 m2
                    rw [hY] at m2 hY2
                    clear hY hM
                    go_wp2_with fail
                    refine (g_Fee_with B (B.picked.set k (z + 1)) _ _ _ _ _ _ _ (BlkIn.own K0.out (by (repeat' (first | (with_reducible exact Below.refl _ _) | (with_reducible assumption) | (with_reducible exact Bw.out (by with_reducible assumption)) | (with_reducible refine bw_alloc ?_ _) | (with_reducible refine bw_step ?_ (by with_reducible assumption)) | (with_reducible refine Below.alloc ?_ ?_ _) | (with_reducible refine Below.drew ?_) | (with_reducible refine below_drewN ?_ _) | (with_reducible refine Below.setCell ?_ ?_ _) | (with_reducible refine below_step ?_ (by with_reducible assumption) ?_) | (with_reducible exact Nat.le_refl _) | omega | (simp; omega) | (simp; done)))) O12.out (by rw [List.length_set]; exact HLP.out) hc1 hc2) Y M HY.out HM.out).mono ?_
                    rintro e w13 ⟨rfl, hb13⟩
                    have R_y_13 : Row w13 (gy) [.int .i64 B.id, .int .i64 B.kind, .int .i64 B.rooms, .int .i64 B.fr, .int .i64 B.un, .slice ca cn cc, .int .i64 B.pn, .int .i64 B.pd, .int .i64 B.fee, .slice (some ⟨g2, 0, none⟩) m cp2] := by (repeat' (first | (with_reducible assumption) | (with_reducible refine Row.new' _ _ _ (by first | rfl | (simp; done) | omega)) | (with_reducible refine Row.alloc ?_ _) | (with_reducible refine Row.drew ?_) | (with_reducible refine Row.drewN ?_ _) | (with_reducible refine Row.step ?_ (by with_reducible assumption)) | (with_reducible refine Row.set2' ?_ _ _; first | exact ⟨_, _, by with_reducible assumption⟩ | exact ⟨_, _, Row.alloc (by with_reducible assumption) _⟩ | exact ⟨_, _, Row.alloc (Row.alloc (by with_reducible assumption) _) _⟩) | (with_reducible refine Row.other ?_ (by first | omega | (simp; done) | (simp; omega)) _)))
                    have c_y_0_13 := R_y_13.cell 0 rfl
                    have c_y_1_13 := R_y_13.cell 1 rfl
                    have c_y_2_13 := R_y_13.cell 2 rfl
                    have c_y_3_13 := R_y_13.cell 3 rfl
                    have c_y_4_13 := R_y_13.cell 4 rfl
                    have c_y_5_13 := R_y_13.cell 5 rfl
                    have c_y_6_13 := R_y_13.cell 6 rfl
                    have c_y_7_13 := R_y_13.cell 7 rfl
                    have c_y_8_13 := R_y_13.cell 8 rfl
                    have c_y_9_13 := R_y_13.cell 9 rfl
                    have z_y_0_13 := R_y_13.frozen 0
                    have z_y_1_13 := R_y_13.frozen 1
                    have z_y_2_13 := R_y_13.frozen 2
                    have z_y_3_13 := R_y_13.frozen 3
                    have z_y_4_13 := R_y_13.frozen 4
                    have z_y_5_13 := R_y_13.frozen 5
                    have z_y_6_13 := R_y_13.frozen 6
                    have z_y_7_13 := R_y_13.frozen 7
                    have z_y_8_13 := R_y_13.frozen 8
                    have z_y_9_13 := R_y_13.frozen 9
                    have l_y_13 := R_y_13.lt
                    have R_b_13 : Row w13 (w.heap.size) [.int .i64 B.id, .int .i64 B.kind, .int .i64 B.rooms, .int .i64 B.fr, .int .i64 B.un, .slice ca cn cc, .int .i64 B.pn, .int .i64 B.pd, .int .i64 B.fee, .slice (some ⟨bb, off, none⟩) m pc] := by (repeat' (first | (with_reducible assumption) | (with_reducible refine Row.new' _ _ _ (by first | rfl | (simp; done) | omega)) | (with_reducible refine Row.alloc ?_ _) | (with_reducible refine Row.drew ?_) | (with_reducible refine Row.drewN ?_ _) | (with_reducible refine Row.step ?_ (by with_reducible assumption)) | (with_reducible refine Row.set2' ?_ _ _; first | exact ⟨_, _, by with_reducible assumption⟩ | exact ⟨_, _, Row.alloc (by with_reducible assumption) _⟩ | exact ⟨_, _, Row.alloc (Row.alloc (by with_reducible assumption) _) _⟩) | (with_reducible refine Row.other ?_ (by first | omega | (simp; done) | (simp; omega)) _)))
                    have c_b_0_13 := R_b_13.cell 0 rfl
                    have c_b_1_13 := R_b_13.cell 1 rfl
                    have c_b_2_13 := R_b_13.cell 2 rfl
                    have c_b_3_13 := R_b_13.cell 3 rfl
                    have c_b_4_13 := R_b_13.cell 4 rfl
                    have c_b_5_13 := R_b_13.cell 5 rfl
                    have c_b_6_13 := R_b_13.cell 6 rfl
                    have c_b_7_13 := R_b_13.cell 7 rfl
                    have c_b_8_13 := R_b_13.cell 8 rfl
                    have c_b_9_13 := R_b_13.cell 9 rfl
                    have l_b_13 := R_b_13.lt
                    have HB13 : Below w.heap.size w w13 := by (repeat' (first | (with_reducible exact Below.refl _ _) | (with_reducible assumption) | (with_reducible exact Bw.out (by with_reducible assumption)) | (with_reducible refine bw_alloc ?_ _) | (with_reducible refine bw_step ?_ (by with_reducible assumption)) | (with_reducible refine Below.alloc ?_ ?_ _) | (with_reducible refine Below.drew ?_) | (with_reducible refine below_drewN ?_ _) | (with_reducible refine Below.setCell ?_ ?_ _) | (with_reducible refine below_step ?_ (by with_reducible assumption) ?_) | (with_reducible exact Nat.le_refl _) | omega | (simp; omega) | (simp; done)))
                    have m3 := m2 HE.out
                    rw [HX.out] at m3
                    obtain ⟨rfl, m4⟩ := m3
                    clear m1 m2
                    have HWY : Hid (IntKind.i64.wrap (Y + B.fee) = Y + B.fee) := IntWalk.i64_in _ (by omega)
                    by_cases hxy2 : X = Y + B.fee
                    · have hxy3 : (X == Y + B.fee) = true := by simpa using hxy2
                      clear hxy2 m4 hX2
                      have hwy := HWY.out
                      go_wp2_with fail
                      clear hwy
                      go_ret
                      refine ⟨(by first | rfl | exact ret_bool (by first | rfl | (simp; done))), ?_⟩
                      (repeat' (first | (with_reducible exact Below.refl _ _) | (with_reducible assumption) | (with_reducible exact Bw.out (by with_reducible assumption)) | (with_reducible refine bw_alloc ?_ _) | (with_reducible refine bw_step ?_ (by with_reducible assumption)) | (with_reducible refine Below.alloc ?_ ?_ _) | (with_reducible refine Below.drew ?_) | (with_reducible refine below_drewN ?_ _) | (with_reducible refine Below.setCell ?_ ?_ _) | (with_reducible refine below_step ?_ (by with_reducible assumption) ?_) | (with_reducible exact Nat.le_refl _) | omega | (simp; omega) | (simp; done)))
                    · exfalso; omega
                ·
                  by_cases hzr : z = B.rooms
                  · have hzt : (z == B.rooms) = true := by simpa using hzr
                    clear hzr
                    go_wp2_with fail
                    go_quiet (fail)
                    generalize hwq : w9.drewN _ = w10
                    have hb10 : Below w9.heap.size w9 w10 := by rw [← hwq]; (repeat' (first | (with_reducible exact Below.refl _ _) | (with_reducible assumption) | (with_reducible exact Bw.out (by with_reducible assumption)) | (with_reducible refine bw_alloc ?_ _) | (with_reducible refine bw_step ?_ (by with_reducible assumption)) | (with_reducible refine Below.alloc ?_ ?_ _) | (with_reducible refine Below.drew ?_) | (with_reducible refine below_drewN ?_ _) | (with_reducible refine Below.setCell ?_ ?_ _) | (with_reducible refine below_step ?_ (by with_reducible assumption) ?_) | (with_reducible exact Nat.le_refl _) | omega | (simp; omega) | (simp; done)))
                    clear hwq
                    have R_x_10 : Row w10 (gx) [.int .i64 B.id, .int .i64 B.kind, .int .i64 B.rooms, .int .i64 B.fr, .int .i64 B.un, .slice ca cn cc, .int .i64 B.pn, .int .i64 B.pd, .int .i64 B.fee, .slice (some ⟨g3, 0, none⟩) m cp] := by (repeat' (first | (with_reducible assumption) | (with_reducible refine Row.new' _ _ _ (by first | rfl | (simp; done) | omega)) | (with_reducible refine Row.alloc ?_ _) | (with_reducible refine Row.drew ?_) | (with_reducible refine Row.drewN ?_ _) | (with_reducible refine Row.step ?_ (by with_reducible assumption)) | (with_reducible refine Row.set2' ?_ _ _; first | exact ⟨_, _, by with_reducible assumption⟩ | exact ⟨_, _, Row.alloc (by with_reducible assumption) _⟩ | exact ⟨_, _, Row.alloc (Row.alloc (by with_reducible assumption) _) _⟩) | (with_reducible refine Row.other ?_ (by first | omega | (simp; done) | (simp; omega)) _)))
                    have c_x_0_10 := R_x_10.cell 0 rfl
                    have c_x_1_10 := R_x_10.cell 1 rfl
                    have c_x_2_10 := R_x_10.cell 2 rfl
                    have c_x_3_10 := R_x_10.cell 3 rfl
                    have c_x_4_10 := R_x_10.cell 4 rfl
                    have c_x_5_10 := R_x_10.cell 5 rfl
                    have c_x_6_10 := R_x_10.cell 6 rfl
                    have c_x_7_10 := R_x_10.cell 7 rfl
                    have c_x_8_10 := R_x_10.cell 8 rfl
                    have c_x_9_10 := R_x_10.cell 9 rfl
                    have l_x_10 := R_x_10.lt
                    have R_y_10 : Row w10 (gy) [.int .i64 B.id, .int .i64 B.kind, .int .i64 B.rooms, .int .i64 B.fr, .int .i64 B.un, .slice ca cn cc, .int .i64 B.pn, .int .i64 B.pd, .int .i64 B.fee, .slice (some ⟨g2, 0, none⟩) m cp2] := by (repeat' (first | (with_reducible assumption) | (with_reducible refine Row.new' _ _ _ (by first | rfl | (simp; done) | omega)) | (with_reducible refine Row.alloc ?_ _) | (with_reducible refine Row.drew ?_) | (with_reducible refine Row.drewN ?_ _) | (with_reducible refine Row.step ?_ (by with_reducible assumption)) | (with_reducible refine Row.set2' ?_ _ _; first | exact ⟨_, _, by with_reducible assumption⟩ | exact ⟨_, _, Row.alloc (by with_reducible assumption) _⟩ | exact ⟨_, _, Row.alloc (Row.alloc (by with_reducible assumption) _) _⟩) | (with_reducible refine Row.other ?_ (by first | omega | (simp; done) | (simp; omega)) _)))
                    have c_y_0_10 := R_y_10.cell 0 rfl
                    have c_y_1_10 := R_y_10.cell 1 rfl
                    have c_y_2_10 := R_y_10.cell 2 rfl
                    have c_y_3_10 := R_y_10.cell 3 rfl
                    have c_y_4_10 := R_y_10.cell 4 rfl
                    have c_y_5_10 := R_y_10.cell 5 rfl
                    have c_y_6_10 := R_y_10.cell 6 rfl
                    have c_y_7_10 := R_y_10.cell 7 rfl
                    have c_y_8_10 := R_y_10.cell 8 rfl
                    have c_y_9_10 := R_y_10.cell 9 rfl
                    have z_y_0_10 := R_y_10.frozen 0
                    have z_y_1_10 := R_y_10.frozen 1
                    have z_y_2_10 := R_y_10.frozen 2
                    have z_y_3_10 := R_y_10.frozen 3
                    have z_y_4_10 := R_y_10.frozen 4
                    have z_y_5_10 := R_y_10.frozen 5
                    have z_y_6_10 := R_y_10.frozen 6
                    have z_y_7_10 := R_y_10.frozen 7
                    have z_y_8_10 := R_y_10.frozen 8
                    have z_y_9_10 := R_y_10.frozen 9
                    have l_y_10 := R_y_10.lt
                    have R_b_10 : Row w10 (w.heap.size) [.int .i64 B.id, .int .i64 B.kind, .int .i64 B.rooms, .int .i64 B.fr, .int .i64 B.un, .slice ca cn cc, .int .i64 B.pn, .int .i64 B.pd, .int .i64 B.fee, .slice (some ⟨bb, off, none⟩) m pc] := by (repeat' (first | (with_reducible assumption) | (with_reducible refine Row.new' _ _ _ (by first | rfl | (simp; done) | omega)) | (with_reducible refine Row.alloc ?_ _) | (with_reducible refine Row.drew ?_) | (with_reducible refine Row.drewN ?_ _) | (with_reducible refine Row.step ?_ (by with_reducible assumption)) | (with_reducible refine Row.set2' ?_ _ _; first | exact ⟨_, _, by with_reducible assumption⟩ | exact ⟨_, _, Row.alloc (by with_reducible assumption) _⟩ | exact ⟨_, _, Row.alloc (Row.alloc (by with_reducible assumption) _) _⟩) | (with_reducible refine Row.other ?_ (by first | omega | (simp; done) | (simp; omega)) _)))
                    have c_b_0_10 := R_b_10.cell 0 rfl
                    have c_b_1_10 := R_b_10.cell 1 rfl
                    have c_b_2_10 := R_b_10.cell 2 rfl
                    have c_b_3_10 := R_b_10.cell 3 rfl
                    have c_b_4_10 := R_b_10.cell 4 rfl
                    have c_b_5_10 := R_b_10.cell 5 rfl
                    have c_b_6_10 := R_b_10.cell 6 rfl
                    have c_b_7_10 := R_b_10.cell 7 rfl
                    have c_b_8_10 := R_b_10.cell 8 rfl
                    have c_b_9_10 := R_b_10.cell 9 rfl
                    have l_b_10 := R_b_10.lt
                    have HB10 : Below w.heap.size w w10 := by (repeat' (first | (with_reducible exact Below.refl _ _) | (with_reducible assumption) | (with_reducible exact Bw.out (by with_reducible assumption)) | (with_reducible refine bw_alloc ?_ _) | (with_reducible refine bw_step ?_ (by with_reducible assumption)) | (with_reducible refine Below.alloc ?_ ?_ _) | (with_reducible refine Below.drew ?_) | (with_reducible refine below_drewN ?_ _) | (with_reducible refine Below.setCell ?_ ?_ _) | (with_reducible refine below_step ?_ (by with_reducible assumption) ?_) | (with_reducible exact Nat.le_refl _) | omega | (simp; omega) | (simp; done)))
                    clear R_x_9 c_x_0_9 c_x_1_9 c_x_2_9 c_x_3_9 c_x_4_9 c_x_5_9 c_x_6_9 c_x_7_9 c_x_8_9 c_x_9_9 R_y_9 c_y_0_9 c_y_1_9 c_y_2_9 c_y_3_9 c_y_4_9 c_y_5_9 c_y_6_9 c_y_7_9 c_y_8_9 c_y_9_9 z_y_0_9 z_y_1_9 z_y_2_9 z_y_3_9 z_y_4_9 z_y_5_9 z_y_6_9 z_y_7_9 z_y_8_9 z_y_9_9 R_b_9 c_b_0_9 c_b_1_9 c_b_2_9 c_b_3_9 c_b_4_9 c_b_5_9 c_b_6_9 c_b_7_9 c_b_8_9 c_b_9_9 hb9 HB9
                    have O10 : Hid (OwnI w10 g2 B.picked) := O9.out.step hb10
                    have gk10 : w10.cell? ⟨g2, k, none⟩ = some (.int .i64 z) := by have := O10.out.cell (i := k) (by rw [HLP.out]; exact hkp); rwa [hz] at this
                    have gz10 := O10.out.frozen k
                    go_wp2_with fail
                    go_ret
                    refine ⟨(by first | rfl | exact ret_bool (by first | rfl | (simp; done) | (simp; omega))), ?_⟩
                    (repeat' (first | (with_reducible exact Below.refl _ _) | (with_reducible assumption) | (with_reducible exact Bw.out (by with_reducible assumption)) | (with_reducible refine bw_alloc ?_ _) | (with_reducible refine bw_step ?_ (by with_reducible assumption)) | (with_reducible refine Below.alloc ?_ ?_ _) | (with_reducible refine Below.drew ?_) | (with_reducible refine below_drewN ?_ _) | (with_reducible refine Below.setCell ?_ ?_ _) | (with_reducible refine below_step ?_ (by with_reducible assumption) ?_) | (with_reducible exact Nat.le_refl _) | omega | (simp; omega) | (simp; done)))
                  · have hzr2 : z < B.rooms := by omega
                    have hzn : (z == B.rooms) = false := by simpa using hzr
                    clear hzr
                    go_wp2_with fail
                    go_quiet (fail)
                    generalize hwq : w9.drewN _ = w10
                    have hb10 : Below w9.heap.size w9 w10 := by rw [← hwq]; (repeat' (first | (with_reducible exact Below.refl _ _) | (with_reducible assumption) | (with_reducible exact Bw.out (by with_reducible assumption)) | (with_reducible refine bw_alloc ?_ _) | (with_reducible refine bw_step ?_ (by with_reducible assumption)) | (with_reducible refine Below.alloc ?_ ?_ _) | (with_reducible refine Below.drew ?_) | (with_reducible refine below_drewN ?_ _) | (with_reducible refine Below.setCell ?_ ?_ _) | (with_reducible refine below_step ?_ (by with_reducible assumption) ?_) | (with_reducible exact Nat.le_refl _) | omega | (simp; omega) | (simp; done)))
                    clear hwq
                    have R_x_10 : Row w10 (gx) [.int .i64 B.id, .int .i64 B.kind, .int .i64 B.rooms, .int .i64 B.fr, .int .i64 B.un, .slice ca cn cc, .int .i64 B.pn, .int .i64 B.pd, .int .i64 B.fee, .slice (some ⟨g3, 0, none⟩) m cp] := by (repeat' (first | (with_reducible assumption) | (with_reducible refine Row.new' _ _ _ (by first | rfl | (simp; done) | omega)) | (with_reducible refine Row.alloc ?_ _) | (with_reducible refine Row.drew ?_) | (with_reducible refine Row.drewN ?_ _) | (with_reducible refine Row.step ?_ (by with_reducible assumption)) | (with_reducible refine Row.set2' ?_ _ _; first | exact ⟨_, _, by with_reducible assumption⟩ | exact ⟨_, _, Row.alloc (by with_reducible assumption) _⟩ | exact ⟨_, _, Row.alloc (Row.alloc (by with_reducible assumption) _) _⟩) | (with_reducible refine Row.other ?_ (by first | omega | (simp; done) | (simp; omega)) _)))
                    have c_x_0_10 := R_x_10.cell 0 rfl
                    have c_x_1_10 := R_x_10.cell 1 rfl
                    have c_x_2_10 := R_x_10.cell 2 rfl
                    have c_x_3_10 := R_x_10.cell 3 rfl
                    have c_x_4_10 := R_x_10.cell 4 rfl
                    have c_x_5_10 := R_x_10.cell 5 rfl
                    have c_x_6_10 := R_x_10.cell 6 rfl
                    have c_x_7_10 := R_x_10.cell 7 rfl
                    have c_x_8_10 := R_x_10.cell 8 rfl
                    have c_x_9_10 := R_x_10.cell 9 rfl
                    have l_x_10 := R_x_10.lt
                    have R_y_10 : Row w10 (gy) [.int .i64 B.id, .int .i64 B.kind, .int .i64 B.rooms, .int .i64 B.fr, .int .i64 B.un, .slice ca cn cc, .int .i64 B.pn, .int .i64 B.pd, .int .i64 B.fee, .slice (some ⟨g2, 0, none⟩) m cp2] := by (repeat' (first | (with_reducible assumption) | (with_reducible refine Row.new' _ _ _ (by first | rfl | (simp; done) | omega)) | (with_reducible refine Row.alloc ?_ _) | (with_reducible refine Row.drew ?_) | (with_reducible refine Row.drewN ?_ _) | (with_reducible refine Row.step ?_ (by with_reducible assumption)) | (with_reducible refine Row.set2' ?_ _ _; first | exact ⟨_, _, by with_reducible assumption⟩ | exact ⟨_, _, Row.alloc (by with_reducible assumption) _⟩ | exact ⟨_, _, Row.alloc (Row.alloc (by with_reducible assumption) _) _⟩) | (with_reducible refine Row.other ?_ (by first | omega | (simp; done) | (simp; omega)) _)))
                    have c_y_0_10 := R_y_10.cell 0 rfl
                    have c_y_1_10 := R_y_10.cell 1 rfl
                    have c_y_2_10 := R_y_10.cell 2 rfl
                    have c_y_3_10 := R_y_10.cell 3 rfl
                    have c_y_4_10 := R_y_10.cell 4 rfl
                    have c_y_5_10 := R_y_10.cell 5 rfl
                    have c_y_6_10 := R_y_10.cell 6 rfl
                    have c_y_7_10 := R_y_10.cell 7 rfl
                    have c_y_8_10 := R_y_10.cell 8 rfl
                    have c_y_9_10 := R_y_10.cell 9 rfl
                    have z_y_0_10 := R_y_10.frozen 0
                    have z_y_1_10 := R_y_10.frozen 1
                    have z_y_2_10 := R_y_10.frozen 2
                    have z_y_3_10 := R_y_10.frozen 3
                    have z_y_4_10 := R_y_10.frozen 4
                    have z_y_5_10 := R_y_10.frozen 5
                    have z_y_6_10 := R_y_10.frozen 6
                    have z_y_7_10 := R_y_10.frozen 7
                    have z_y_8_10 := R_y_10.frozen 8
                    have z_y_9_10 := R_y_10.frozen 9
                    have l_y_10 := R_y_10.lt
                    have R_b_10 : Row w10 (w.heap.size) [.int .i64 B.id, .int .i64 B.kind, .int .i64 B.rooms, .int .i64 B.fr, .int .i64 B.un, .slice ca cn cc, .int .i64 B.pn, .int .i64 B.pd, .int .i64 B.fee, .slice (some ⟨bb, off, none⟩) m pc] := by (repeat' (first | (with_reducible assumption) | (with_reducible refine Row.new' _ _ _ (by first | rfl | (simp; done) | omega)) | (with_reducible refine Row.alloc ?_ _) | (with_reducible refine Row.drew ?_) | (with_reducible refine Row.drewN ?_ _) | (with_reducible refine Row.step ?_ (by with_reducible assumption)) | (with_reducible refine Row.set2' ?_ _ _; first | exact ⟨_, _, by with_reducible assumption⟩ | exact ⟨_, _, Row.alloc (by with_reducible assumption) _⟩ | exact ⟨_, _, Row.alloc (Row.alloc (by with_reducible assumption) _) _⟩) | (with_reducible refine Row.other ?_ (by first | omega | (simp; done) | (simp; omega)) _)))
                    have c_b_0_10 := R_b_10.cell 0 rfl
                    have c_b_1_10 := R_b_10.cell 1 rfl
                    have c_b_2_10 := R_b_10.cell 2 rfl
                    have c_b_3_10 := R_b_10.cell 3 rfl
                    have c_b_4_10 := R_b_10.cell 4 rfl
                    have c_b_5_10 := R_b_10.cell 5 rfl
                    have c_b_6_10 := R_b_10.cell 6 rfl
                    have c_b_7_10 := R_b_10.cell 7 rfl
                    have c_b_8_10 := R_b_10.cell 8 rfl
                    have c_b_9_10 := R_b_10.cell 9 rfl
                    have l_b_10 := R_b_10.lt
                    have HB10 : Below w.heap.size w w10 := by (repeat' (first | (with_reducible exact Below.refl _ _) | (with_reducible assumption) | (with_reducible exact Bw.out (by with_reducible assumption)) | (with_reducible refine bw_alloc ?_ _) | (with_reducible refine bw_step ?_ (by with_reducible assumption)) | (with_reducible refine Below.alloc ?_ ?_ _) | (with_reducible refine Below.drew ?_) | (with_reducible refine below_drewN ?_ _) | (with_reducible refine Below.setCell ?_ ?_ _) | (with_reducible refine below_step ?_ (by with_reducible assumption) ?_) | (with_reducible exact Nat.le_refl _) | omega | (simp; omega) | (simp; done)))
                    clear R_x_9 c_x_0_9 c_x_1_9 c_x_2_9 c_x_3_9 c_x_4_9 c_x_5_9 c_x_6_9 c_x_7_9 c_x_8_9 c_x_9_9 R_y_9 c_y_0_9 c_y_1_9 c_y_2_9 c_y_3_9 c_y_4_9 c_y_5_9 c_y_6_9 c_y_7_9 c_y_8_9 c_y_9_9 z_y_0_9 z_y_1_9 z_y_2_9 z_y_3_9 z_y_4_9 z_y_5_9 z_y_6_9 z_y_7_9 z_y_8_9 z_y_9_9 R_b_9 c_b_0_9 c_b_1_9 c_b_2_9 c_b_3_9 c_b_4_9 c_b_5_9 c_b_6_9 c_b_7_9 c_b_8_9 c_b_9_9 hb9 HB9
                    have O10 : Hid (OwnI w10 g2 B.picked) := O9.out.step hb10
                    have gk10 : w10.cell? ⟨g2, k, none⟩ = some (.int .i64 z) := by have := O10.out.cell (i := k) (by rw [HLP.out]; exact hkp); rwa [hz] at this
                    have gz10 := O10.out.frozen k
                    have hwz : IntKind.i64.wrap (z + 1) = z + 1 := IntWalk.i64_in _ (by omega)
                    go_upto_region 23 with fail
                    clear hwz
                    obtain ⟨w11, hw11⟩ : ∃ wd, w10.setCell ⟨g2, k, none⟩ (.int .i64 (z + 1)) = wd := ⟨_, rfl⟩
                    rw [hw11]
                    have R_y_11 : Row w11 gy [.int .i64 B.id, .int .i64 B.kind, .int .i64 B.rooms, .int .i64 B.fr, .int .i64 B.un, .slice ca cn cc, .int .i64 B.pn, .int .i64 B.pd, .int .i64 B.fee, .slice (some ⟨g2, 0, none⟩) m cp2] := by rw [← hw11]; exact R_y_10.other (by simp; omega) _
                    have R_b_11 : Row w11 w.heap.size [.int .i64 B.id, .int .i64 B.kind, .int .i64 B.rooms, .int .i64 B.fr, .int .i64 B.un, .slice ca cn cc, .int .i64 B.pn, .int .i64 B.pd, .int .i64 B.fee, .slice (some ⟨bb, off, none⟩) m pc] := by rw [← hw11]; exact R_b_10.other (by simp; omega) _
                    have O11 : Hid (OwnI w11 g2 (B.picked.set k (z + 1))) := by rw [← hw11]; exact O10.out.set (by rw [HLP.out]; exact hkp) _
                    have HB11 : Below w.heap.size w w11 := by rw [← hw11]; exact HB10.setCell (by simp; omega) _
                    clear hw11 R_x_10 R_y_10 R_b_10 gk10 gz10
                    have c_y_0_11 := R_y_11.cell 0 rfl
                    have c_y_1_11 := R_y_11.cell 1 rfl
                    have c_y_2_11 := R_y_11.cell 2 rfl
                    have c_y_3_11 := R_y_11.cell 3 rfl
                    have c_y_4_11 := R_y_11.cell 4 rfl
                    have c_y_5_11 := R_y_11.cell 5 rfl
                    have c_y_6_11 := R_y_11.cell 6 rfl
                    have c_y_7_11 := R_y_11.cell 7 rfl
                    have c_y_8_11 := R_y_11.cell 8 rfl
                    have c_y_9_11 := R_y_11.cell 9 rfl
                    have l_y_11 := R_y_11.lt
                    have c_b_0_11 := R_b_11.cell 0 rfl
                    have c_b_1_11 := R_b_11.cell 1 rfl
                    have c_b_2_11 := R_b_11.cell 2 rfl
                    have c_b_3_11 := R_b_11.cell 3 rfl
                    have c_b_4_11 := R_b_11.cell 4 rfl
                    have c_b_5_11 := R_b_11.cell 5 rfl
                    have c_b_6_11 := R_b_11.cell 6 rfl
                    have c_b_7_11 := R_b_11.cell 7 rfl
                    have c_b_8_11 := R_b_11.cell 8 rfl
                    have c_b_9_11 := R_b_11.cell 9 rfl
                    have l_b_11 := R_b_11.lt
                    obtain ⟨Y, hY⟩ : ∃ Y, feV (withB B (B.picked.set k (z + 1))) = Y := ⟨_, rfl⟩
                    obtain ⟨M, hM⟩ : ∃ M, feE (withB B (B.picked.set k (z + 1))) = M := ⟨_, rfl⟩
                    have HY := Lib.hid hY
                    have HM := Lib.hid hM
                    obtain ⟨m1, m2⟩ := fee_more HV.out (by rw [HLP.out]; exact hkp) hz hzr2
                    have hY2 := feV_in (more_ok HV.out (by rw [HLP.out]; exact hkp) hz hzr2)
                    rw [hM] at m1 m2
                    rw [hY] at m2 hY2
                    clear hY hM
                    go_wp2_with fail
                    refine (g_Fee_with B (B.picked.set k (z + 1)) _ _ _ _ _ _ _ (BlkIn.own K0.out (by (repeat' (first | (with_reducible exact Below.refl _ _) | (with_reducible assumption) | (with_reducible exact Bw.out (by with_reducible assumption)) | (with_reducible refine bw_alloc ?_ _) | (with_reducible refine bw_step ?_ (by with_reducible assumption)) | (with_reducible refine Below.alloc ?_ ?_ _) | (with_reducible refine Below.drew ?_) | (with_reducible refine below_drewN ?_ _) | (with_reducible refine Below.setCell ?_ ?_ _) | (with_reducible refine below_step ?_ (by with_reducible assumption) ?_) | (with_reducible exact Nat.le_refl _) | omega | (simp; omega) | (simp; done)))) O11.out (by rw [List.length_set]; exact HLP.out) hc1 hc2) Y M HY.out HM.out).mono ?_
                    rintro e w12 ⟨rfl, hb12⟩
                    have R_y_12 : Row w12 (gy) [.int .i64 B.id, .int .i64 B.kind, .int .i64 B.rooms, .int .i64 B.fr, .int .i64 B.un, .slice ca cn cc, .int .i64 B.pn, .int .i64 B.pd, .int .i64 B.fee, .slice (some ⟨g2, 0, none⟩) m cp2] := by (repeat' (first | (with_reducible assumption) | (with_reducible refine Row.new' _ _ _ (by first | rfl | (simp; done) | omega)) | (with_reducible refine Row.alloc ?_ _) | (with_reducible refine Row.drew ?_) | (with_reducible refine Row.drewN ?_ _) | (with_reducible refine Row.step ?_ (by with_reducible assumption)) | (with_reducible refine Row.set2' ?_ _ _; first | exact ⟨_, _, by with_reducible assumption⟩ | exact ⟨_, _, Row.alloc (by with_reducible assumption) _⟩ | exact ⟨_, _, Row.alloc (Row.alloc (by with_reducible assumption) _) _⟩) | (with_reducible refine Row.other ?_ (by first | omega | (simp; done) | (simp; omega)) _)))
                    have c_y_0_12 := R_y_12.cell 0 rfl
                    have c_y_1_12 := R_y_12.cell 1 rfl
                    have c_y_2_12 := R_y_12.cell 2 rfl
                    have c_y_3_12 := R_y_12.cell 3 rfl
                    have c_y_4_12 := R_y_12.cell 4 rfl
                    have c_y_5_12 := R_y_12.cell 5 rfl
                    have c_y_6_12 := R_y_12.cell 6 rfl
                    have c_y_7_12 := R_y_12.cell 7 rfl
                    have c_y_8_12 := R_y_12.cell 8 rfl
                    have c_y_9_12 := R_y_12.cell 9 rfl
                    have z_y_0_12 := R_y_12.frozen 0
                    have z_y_1_12 := R_y_12.frozen 1
                    have z_y_2_12 := R_y_12.frozen 2
                    have z_y_3_12 := R_y_12.frozen 3
                    have z_y_4_12 := R_y_12.frozen 4
                    have z_y_5_12 := R_y_12.frozen 5
                    have z_y_6_12 := R_y_12.frozen 6
                    have z_y_7_12 := R_y_12.frozen 7
                    have z_y_8_12 := R_y_12.frozen 8
                    have z_y_9_12 := R_y_12.frozen 9
                    have l_y_12 := R_y_12.lt
                    have R_b_12 : Row w12 (w.heap.size) [.int .i64 B.id, .int .i64 B.kind, .int .i64 B.rooms, .int .i64 B.fr, .int .i64 B.un, .slice ca cn cc, .int .i64 B.pn, .int .i64 B.pd, .int .i64 B.fee, .slice (some ⟨bb, off, none⟩) m pc] := by (repeat' (first | (with_reducible assumption) | (with_reducible refine Row.new' _ _ _ (by first | rfl | (simp; done) | omega)) | (with_reducible refine Row.alloc ?_ _) | (with_reducible refine Row.drew ?_) | (with_reducible refine Row.drewN ?_ _) | (with_reducible refine Row.step ?_ (by with_reducible assumption)) | (with_reducible refine Row.set2' ?_ _ _; first | exact ⟨_, _, by with_reducible assumption⟩ | exact ⟨_, _, Row.alloc (by with_reducible assumption) _⟩ | exact ⟨_, _, Row.alloc (Row.alloc (by with_reducible assumption) _) _⟩) | (with_reducible refine Row.other ?_ (by first | omega | (simp; done) | (simp; omega)) _)))
                    have c_b_0_12 := R_b_12.cell 0 rfl
                    have c_b_1_12 := R_b_12.cell 1 rfl
                    have c_b_2_12 := R_b_12.cell 2 rfl
                    have c_b_3_12 := R_b_12.cell 3 rfl
                    have c_b_4_12 := R_b_12.cell 4 rfl
                    have c_b_5_12 := R_b_12.cell 5 rfl
                    have c_b_6_12 := R_b_12.cell 6 rfl
                    have c_b_7_12 := R_b_12.cell 7 rfl
                    have c_b_8_12 := R_b_12.cell 8 rfl
                    have c_b_9_12 := R_b_12.cell 9 rfl
                    have l_b_12 := R_b_12.lt
                    have HB12 : Below w.heap.size w w12 := by (repeat' (first | (with_reducible exact Below.refl _ _) | (with_reducible assumption) | (with_reducible exact Bw.out (by with_reducible assumption)) | (with_reducible refine bw_alloc ?_ _) | (with_reducible refine bw_step ?_ (by with_reducible assumption)) | (with_reducible refine Below.alloc ?_ ?_ _) | (with_reducible refine Below.drew ?_) | (with_reducible refine below_drewN ?_ _) | (with_reducible refine Below.setCell ?_ ?_ _) | (with_reducible refine below_step ?_ (by with_reducible assumption) ?_) | (with_reducible exact Nat.le_refl _) | omega | (simp; omega) | (simp; done)))
                    have m3 := m2 HE.out
                    rw [HX.out] at m3
                    obtain ⟨rfl, m4⟩ := m3
                    clear m1 m2
                    have HWY : Hid (IntKind.i64.wrap (Y + B.fee) = Y + B.fee) := IntWalk.i64_in _ (by omega)
                    by_cases hxy2 : X = Y + B.fee
                    · have hxy3 : (X == Y + B.fee) = true := by simpa using hxy2
                      clear hxy2 m4 hX2
                      have hwy := HWY.out
                      go_wp2_with fail
                      clear hwy
                      go_ret
                      refine ⟨(by first | rfl | exact ret_bool (by first | rfl | (simp; done))), ?_⟩
                      (repeat' (first | (with_reducible exact Below.refl _ _) | (with_reducible assumption) | (with_reducible exact Bw.out (by with_reducible assumption)) | (with_reducible refine bw_alloc ?_ _) | (with_reducible refine bw_step ?_ (by with_reducible assumption)) | (with_reducible refine Below.alloc ?_ ?_ _) | (with_reducible refine Below.drew ?_) | (with_reducible refine below_drewN ?_ _) | (with_reducible refine Below.setCell ?_ ?_ _) | (with_reducible refine below_step ?_ (by with_reducible assumption) ?_) | (with_reducible exact Nat.le_refl _) | omega | (simp; omega) | (simp; done)))
                    · have hxy3 : (X == Y + B.fee) = false := by simpa using hxy2
                      obtain ⟨rfl, rfl⟩ : X = 0 ∧ Y = 0 := by omega
                      clear hxy2 m4
                      have hwy := HWY.out
                      go_wp2_with fail
                      clear hwy
                      go_ret
                      refine ⟨(by first | rfl | exact ret_bool (by first | rfl | (simp; done))), ?_⟩
                      (repeat' (first | (with_reducible exact Below.refl _ _) | (with_reducible assumption) | (with_reducible exact Bw.out (by with_reducible assumption)) | (with_reducible refine bw_alloc ?_ _) | (with_reducible refine bw_step ?_ (by with_reducible assumption)) | (with_reducible refine Below.alloc ?_ ?_ _) | (with_reducible refine Below.drew ?_) | (with_reducible refine below_drewN ?_ _) | (with_reducible refine Below.setCell ?_ ?_ _) | (with_reducible refine below_step ?_ (by with_reducible assumption) ?_) | (with_reducible exact Nat.le_refl _) | omega | (simp; omega) | (simp; done)))
              ·
                by_cases hzr : z = B.rooms
                · have hzt : (z == B.rooms) = true := by simpa using hzr
                  clear hzr
                  go_wp2_with fail
                  go_quiet (fail)
                  generalize hwq : w9.drewN _ = w10
                  have hb10 : Below w9.heap.size w9 w10 := by rw [← hwq]; (repeat' (first | (with_reducible exact Below.refl _ _) | (with_reducible assumption) | (with_reducible exact Bw.out (by with_reducible assumption)) | (with_reducible refine bw_alloc ?_ _) | (with_reducible refine bw_step ?_ (by with_reducible assumption)) | (with_reducible refine Below.alloc ?_ ?_ _) | (with_reducible refine Below.drew ?_) | (with_reducible refine below_drewN ?_ _) | (with_reducible refine Below.setCell ?_ ?_ _) | (with_reducible refine below_step ?_ (by with_reducible assumption) ?_) | (with_reducible exact Nat.le_refl _) | omega | (simp; omega) | (simp; done)))
                  clear hwq
                  have R_x_10 : Row w10 (gx) [.int .i64 B.id, .int .i64 B.kind, .int .i64 B.rooms, .int .i64 B.fr, .int .i64 B.un, .slice ca cn cc, .int .i64 B.pn, .int .i64 B.pd, .int .i64 B.fee, .slice (some ⟨g3, 0, none⟩) m cp] := by (repeat' (first | (with_reducible assumption) | (with_reducible refine Row.new' _ _ _ (by first | rfl | (simp; done) | omega)) | (with_reducible refine Row.alloc ?_ _) | (with_reducible refine Row.drew ?_) | (with_reducible refine Row.drewN ?_ _) | (with_reducible refine Row.step ?_ (by with_reducible assumption)) | (with_reducible refine Row.set2' ?_ _ _; first | exact ⟨_, _, by with_reducible assumption⟩ | exact ⟨_, _, Row.alloc (by with_reducible assumption) _⟩ | exact ⟨_, _, Row.alloc (Row.alloc (by with_reducible assumption) _) _⟩) | (with_reducible refine Row.other ?_ (by first | omega | (simp; done) | (simp; omega)) _)))
                  have c_x_0_10 := R_x_10.cell 0 rfl
                  have c_x_1_10 := R_x_10.cell 1 rfl
                  have c_x_2_10 := R_x_10.cell 2 rfl
                  have c_x_3_10 := R_x_10.cell 3 rfl
                  have c_x_4_10 := R_x_10.cell 4 rfl
                  have c_x_5_10 := R_x_10.cell 5 rfl
                  have c_x_6_10 := R_x_10.cell 6 rfl
                  have c_x_7_10 := R_x_10.cell 7 rfl
                  have c_x_8_10 := R_x_10.cell 8 rfl
                  have c_x_9_10 := R_x_10.cell 9 rfl
                  have l_x_10 := R_x_10.lt
                  have R_y_10 : Row w10 (gy) [.int .i64 B.id, .int .i64 B.kind, .int .i64 B.rooms, .int .i64 B.fr, .int .i64 B.un, .slice ca cn cc, .int .i64 B.pn, .int .i64 B.pd, .int .i64 B.fee, .slice (some ⟨g2, 0, none⟩) m cp2] := by (repeat' (first | (with_reducible assumption) | (with_reducible refine Row.new' _ _ _ (by first | rfl | (simp; done) | omega)) | (with_reducible refine Row.alloc ?_ _) | (with_reducible refine Row.drew ?_) | (with_reducible refine Row.drewN ?_ _) | (with_reducible refine Row.step ?_ (by with_reducible assumption)) | (with_reducible refine Row.set2' ?_ _ _; first | exact ⟨_, _, by with_reducible assumption⟩ | exact ⟨_, _, Row.alloc (by with_reducible assumption) _⟩ | exact ⟨_, _, Row.alloc (Row.alloc (by with_reducible assumption) _) _⟩) | (with_reducible refine Row.other ?_ (by first | omega | (simp; done) | (simp; omega)) _)))
                  have c_y_0_10 := R_y_10.cell 0 rfl
                  have c_y_1_10 := R_y_10.cell 1 rfl
                  have c_y_2_10 := R_y_10.cell 2 rfl
                  have c_y_3_10 := R_y_10.cell 3 rfl
                  have c_y_4_10 := R_y_10.cell 4 rfl
                  have c_y_5_10 := R_y_10.cell 5 rfl
                  have c_y_6_10 := R_y_10.cell 6 rfl
                  have c_y_7_10 := R_y_10.cell 7 rfl
                  have c_y_8_10 := R_y_10.cell 8 rfl
                  have c_y_9_10 := R_y_10.cell 9 rfl
                  have z_y_0_10 := R_y_10.frozen 0
                  have z_y_1_10 := R_y_10.frozen 1
                  have z_y_2_10 := R_y_10.frozen 2
                  have z_y_3_10 := R_y_10.frozen 3
                  have z_y_4_10 := R_y_10.frozen 4
                  have z_y_5_10 := R_y_10.frozen 5
                  have z_y_6_10 := R_y_10.frozen 6
                  have z_y_7_10 := R_y_10.frozen 7
                  have z_y_8_10 := R_y_10.frozen 8
                  have z_y_9_10 := R_y_10.frozen 9
                  have l_y_10 := R_y_10.lt
                  have R_b_10 : Row w10 (w.heap.size) [.int .i64 B.id, .int .i64 B.kind, .int .i64 B.rooms, .int .i64 B.fr, .int .i64 B.un, .slice ca cn cc, .int .i64 B.pn, .int .i64 B.pd, .int .i64 B.fee, .slice (some ⟨bb, off, none⟩) m pc] := by (repeat' (first | (with_reducible assumption) | (with_reducible refine Row.new' _ _ _ (by first | rfl | (simp; done) | omega)) | (with_reducible refine Row.alloc ?_ _) | (with_reducible refine Row.drew ?_) | (with_reducible refine Row.drewN ?_ _) | (with_reducible refine Row.step ?_ (by with_reducible assumption)) | (with_reducible refine Row.set2' ?_ _ _; first | exact ⟨_, _, by with_reducible assumption⟩ | exact ⟨_, _, Row.alloc (by with_reducible assumption) _⟩ | exact ⟨_, _, Row.alloc (Row.alloc (by with_reducible assumption) _) _⟩) | (with_reducible refine Row.other ?_ (by first | omega | (simp; done) | (simp; omega)) _)))
                  have c_b_0_10 := R_b_10.cell 0 rfl
                  have c_b_1_10 := R_b_10.cell 1 rfl
                  have c_b_2_10 := R_b_10.cell 2 rfl
                  have c_b_3_10 := R_b_10.cell 3 rfl
                  have c_b_4_10 := R_b_10.cell 4 rfl
                  have c_b_5_10 := R_b_10.cell 5 rfl
                  have c_b_6_10 := R_b_10.cell 6 rfl
                  have c_b_7_10 := R_b_10.cell 7 rfl
                  have c_b_8_10 := R_b_10.cell 8 rfl
                  have c_b_9_10 := R_b_10.cell 9 rfl
                  have l_b_10 := R_b_10.lt
                  have HB10 : Below w.heap.size w w10 := by (repeat' (first | (with_reducible exact Below.refl _ _) | (with_reducible assumption) | (with_reducible exact Bw.out (by with_reducible assumption)) | (with_reducible refine bw_alloc ?_ _) | (with_reducible refine bw_step ?_ (by with_reducible assumption)) | (with_reducible refine Below.alloc ?_ ?_ _) | (with_reducible refine Below.drew ?_) | (with_reducible refine below_drewN ?_ _) | (with_reducible refine Below.setCell ?_ ?_ _) | (with_reducible refine below_step ?_ (by with_reducible assumption) ?_) | (with_reducible exact Nat.le_refl _) | omega | (simp; omega) | (simp; done)))
                  clear R_x_9 c_x_0_9 c_x_1_9 c_x_2_9 c_x_3_9 c_x_4_9 c_x_5_9 c_x_6_9 c_x_7_9 c_x_8_9 c_x_9_9 R_y_9 c_y_0_9 c_y_1_9 c_y_2_9 c_y_3_9 c_y_4_9 c_y_5_9 c_y_6_9 c_y_7_9 c_y_8_9 c_y_9_9 z_y_0_9 z_y_1_9 z_y_2_9 z_y_3_9 z_y_4_9 z_y_5_9 z_y_6_9 z_y_7_9 z_y_8_9 z_y_9_9 R_b_9 c_b_0_9 c_b_1_9 c_b_2_9 c_b_3_9 c_b_4_9 c_b_5_9 c_b_6_9 c_b_7_9 c_b_8_9 c_b_9_9 hb9 HB9
                  have O10 : Hid (OwnI w10 g2 B.picked) := O9.out.step hb10
                  have gk10 : w10.cell? ⟨g2, k, none⟩ = some (.int .i64 z) := by have := O10.out.cell (i := k) (by rw [HLP.out]; exact hkp); rwa [hz] at this
                  have gz10 := O10.out.frozen k
                  go_wp2_with fail
                  go_ret
                  refine ⟨(by first | rfl | exact ret_bool (by first | rfl | (simp; done) | (simp; omega))), ?_⟩
                  (repeat' (first | (with_reducible exact Below.refl _ _) | (with_reducible assumption) | (with_reducible exact Bw.out (by with_reducible assumption)) | (with_reducible refine bw_alloc ?_ _) | (with_reducible refine bw_step ?_ (by with_reducible assumption)) | (with_reducible refine Below.alloc ?_ ?_ _) | (with_reducible refine Below.drew ?_) | (with_reducible refine below_drewN ?_ _) | (with_reducible refine Below.setCell ?_ ?_ _) | (with_reducible refine below_step ?_ (by with_reducible assumption) ?_) | (with_reducible exact Nat.le_refl _) | omega | (simp; omega) | (simp; done)))
                · have hzr2 : z < B.rooms := by omega
                  have hzn : (z == B.rooms) = false := by simpa using hzr
                  clear hzr
                  go_wp2_with fail
                  go_quiet (fail)
                  generalize hwq : w9.drewN _ = w10
                  have hb10 : Below w9.heap.size w9 w10 := by rw [← hwq]; (repeat' (first | (with_reducible exact Below.refl _ _) | (with_reducible assumption) | (with_reducible exact Bw.out (by with_reducible assumption)) | (with_reducible refine bw_alloc ?_ _) | (with_reducible refine bw_step ?_ (by with_reducible assumption)) | (with_reducible refine Below.alloc ?_ ?_ _) | (with_reducible refine Below.drew ?_) | (with_reducible refine below_drewN ?_ _) | (with_reducible refine Below.setCell ?_ ?_ _) | (with_reducible refine below_step ?_ (by with_reducible assumption) ?_) | (with_reducible exact Nat.le_refl _) | omega | (simp; omega) | (simp; done)))
                  clear hwq
                  have R_x_10 : Row w10 (gx) [.int .i64 B.id, .int .i64 B.kind, .int .i64 B.rooms, .int .i64 B.fr, .int .i64 B.un, .slice ca cn cc, .int .i64 B.pn, .int .i64 B.pd, .int .i64 B.fee, .slice (some ⟨g3, 0, none⟩) m cp] := by (repeat' (first | (with_reducible assumption) | (with_reducible refine Row.new' _ _ _ (by first | rfl | (simp; done) | omega)) | (with_reducible refine Row.alloc ?_ _) | (with_reducible refine Row.drew ?_) | (with_reducible refine Row.drewN ?_ _) | (with_reducible refine Row.step ?_ (by with_reducible assumption)) | (with_reducible refine Row.set2' ?_ _ _; first | exact ⟨_, _, by with_reducible assumption⟩ | exact ⟨_, _, Row.alloc (by with_reducible assumption) _⟩ | exact ⟨_, _, Row.alloc (Row.alloc (by with_reducible assumption) _) _⟩) | (with_reducible refine Row.other ?_ (by first | omega | (simp; done) | (simp; omega)) _)))
                  have c_x_0_10 := R_x_10.cell 0 rfl
                  have c_x_1_10 := R_x_10.cell 1 rfl
                  have c_x_2_10 := R_x_10.cell 2 rfl
                  have c_x_3_10 := R_x_10.cell 3 rfl
                  have c_x_4_10 := R_x_10.cell 4 rfl
                  have c_x_5_10 := R_x_10.cell 5 rfl
                  have c_x_6_10 := R_x_10.cell 6 rfl
                  have c_x_7_10 := R_x_10.cell 7 rfl
                  have c_x_8_10 := R_x_10.cell 8 rfl
                  have c_x_9_10 := R_x_10.cell 9 rfl
                  have l_x_10 := R_x_10.lt
                  have R_y_10 : Row w10 (gy) [.int .i64 B.id, .int .i64 B.kind, .int .i64 B.rooms, .int .i64 B.fr, .int .i64 B.un, .slice ca cn cc, .int .i64 B.pn, .int .i64 B.pd, .int .i64 B.fee, .slice (some ⟨g2, 0, none⟩) m cp2] := by (repeat' (first | (with_reducible assumption) | (with_reducible refine Row.new' _ _ _ (by first | rfl | (simp; done) | omega)) | (with_reducible refine Row.alloc ?_ _) | (with_reducible refine Row.drew ?_) | (with_reducible refine Row.drewN ?_ _) | (with_reducible refine Row.step ?_ (by with_reducible assumption)) | (with_reducible refine Row.set2' ?_ _ _; first | exact ⟨_, _, by with_reducible assumption⟩ | exact ⟨_, _, Row.alloc (by with_reducible assumption) _⟩ | exact ⟨_, _, Row.alloc (Row.alloc (by with_reducible assumption) _) _⟩) | (with_reducible refine Row.other ?_ (by first | omega | (simp; done) | (simp; omega)) _)))
                  have c_y_0_10 := R_y_10.cell 0 rfl
                  have c_y_1_10 := R_y_10.cell 1 rfl
                  have c_y_2_10 := R_y_10.cell 2 rfl
                  have c_y_3_10 := R_y_10.cell 3 rfl
                  have c_y_4_10 := R_y_10.cell 4 rfl
                  have c_y_5_10 := R_y_10.cell 5 rfl
                  have c_y_6_10 := R_y_10.cell 6 rfl
                  have c_y_7_10 := R_y_10.cell 7 rfl
                  have c_y_8_10 := R_y_10.cell 8 rfl
                  have c_y_9_10 := R_y_10.cell 9 rfl
                  have z_y_0_10 := R_y_10.frozen 0
                  have z_y_1_10 := R_y_10.frozen 1
                  have z_y_2_10 := R_y_10.frozen 2
                  have z_y_3_10 := R_y_10.frozen 3
                  have z_y_4_10 := R_y_10.frozen 4
                  have z_y_5_10 := R_y_10.frozen 5
                  have z_y_6_10 := R_y_10.frozen 6
                  have z_y_7_10 := R_y_10.frozen 7
                  have z_y_8_10 := R_y_10.frozen 8
                  have z_y_9_10 := R_y_10.frozen 9
                  have l_y_10 := R_y_10.lt
                  have R_b_10 : Row w10 (w.heap.size) [.int .i64 B.id, .int .i64 B.kind, .int .i64 B.rooms, .int .i64 B.fr, .int .i64 B.un, .slice ca cn cc, .int .i64 B.pn, .int .i64 B.pd, .int .i64 B.fee, .slice (some ⟨bb, off, none⟩) m pc] := by (repeat' (first | (with_reducible assumption) | (with_reducible refine Row.new' _ _ _ (by first | rfl | (simp; done) | omega)) | (with_reducible refine Row.alloc ?_ _) | (with_reducible refine Row.drew ?_) | (with_reducible refine Row.drewN ?_ _) | (with_reducible refine Row.step ?_ (by with_reducible assumption)) | (with_reducible refine Row.set2' ?_ _ _; first | exact ⟨_, _, by with_reducible assumption⟩ | exact ⟨_, _, Row.alloc (by with_reducible assumption) _⟩ | exact ⟨_, _, Row.alloc (Row.alloc (by with_reducible assumption) _) _⟩) | (with_reducible refine Row.other ?_ (by first | omega | (simp; done) | (simp; omega)) _)))
                  have c_b_0_10 := R_b_10.cell 0 rfl
                  have c_b_1_10 := R_b_10.cell 1 rfl
                  have c_b_2_10 := R_b_10.cell 2 rfl
                  have c_b_3_10 := R_b_10.cell 3 rfl
                  have c_b_4_10 := R_b_10.cell 4 rfl
                  have c_b_5_10 := R_b_10.cell 5 rfl
                  have c_b_6_10 := R_b_10.cell 6 rfl
                  have c_b_7_10 := R_b_10.cell 7 rfl
                  have c_b_8_10 := R_b_10.cell 8 rfl
                  have c_b_9_10 := R_b_10.cell 9 rfl
                  have l_b_10 := R_b_10.lt
                  have HB10 : Below w.heap.size w w10 := by (repeat' (first | (with_reducible exact Below.refl _ _) | (with_reducible assumption) | (with_reducible exact Bw.out (by with_reducible assumption)) | (with_reducible refine bw_alloc ?_ _) | (with_reducible refine bw_step ?_ (by with_reducible assumption)) | (with_reducible refine Below.alloc ?_ ?_ _) | (with_reducible refine Below.drew ?_) | (with_reducible refine below_drewN ?_ _) | (with_reducible refine Below.setCell ?_ ?_ _) | (with_reducible refine below_step ?_ (by with_reducible assumption) ?_) | (with_reducible exact Nat.le_refl _) | omega | (simp; omega) | (simp; done)))
                  clear R_x_9 c_x_0_9 c_x_1_9 c_x_2_9 c_x_3_9 c_x_4_9 c_x_5_9 c_x_6_9 c_x_7_9 c_x_8_9 c_x_9_9 R_y_9 c_y_0_9 c_y_1_9 c_y_2_9 c_y_3_9 c_y_4_9 c_y_5_9 c_y_6_9 c_y_7_9 c_y_8_9 c_y_9_9 z_y_0_9 z_y_1_9 z_y_2_9 z_y_3_9 z_y_4_9 z_y_5_9 z_y_6_9 z_y_7_9 z_y_8_9 z_y_9_9 R_b_9 c_b_0_9 c_b_1_9 c_b_2_9 c_b_3_9 c_b_4_9 c_b_5_9 c_b_6_9 c_b_7_9 c_b_8_9 c_b_9_9 hb9 HB9
                  have O10 : Hid (OwnI w10 g2 B.picked) := O9.out.step hb10
                  have gk10 : w10.cell? ⟨g2, k, none⟩ = some (.int .i64 z) := by have := O10.out.cell (i := k) (by rw [HLP.out]; exact hkp); rwa [hz] at this
                  have gz10 := O10.out.frozen k
                  have hwz : IntKind.i64.wrap (z + 1) = z + 1 := IntWalk.i64_in _ (by omega)
                  go_upto_region 23 with fail
                  clear hwz
                  obtain ⟨w11, hw11⟩ : ∃ wd, w10.setCell ⟨g2, k, none⟩ (.int .i64 (z + 1)) = wd := ⟨_, rfl⟩
                  rw [hw11]
                  have R_y_11 : Row w11 gy [.int .i64 B.id, .int .i64 B.kind, .int .i64 B.rooms, .int .i64 B.fr, .int .i64 B.un, .slice ca cn cc, .int .i64 B.pn, .int .i64 B.pd, .int .i64 B.fee, .slice (some ⟨g2, 0, none⟩) m cp2] := by rw [← hw11]; exact R_y_10.other (by simp; omega) _
                  have R_b_11 : Row w11 w.heap.size [.int .i64 B.id, .int .i64 B.kind, .int .i64 B.rooms, .int .i64 B.fr, .int .i64 B.un, .slice ca cn cc, .int .i64 B.pn, .int .i64 B.pd, .int .i64 B.fee, .slice (some ⟨bb, off, none⟩) m pc] := by rw [← hw11]; exact R_b_10.other (by simp; omega) _
                  have O11 : Hid (OwnI w11 g2 (B.picked.set k (z + 1))) := by rw [← hw11]; exact O10.out.set (by rw [HLP.out]; exact hkp) _
                  have HB11 : Below w.heap.size w w11 := by rw [← hw11]; exact HB10.setCell (by simp; omega) _
                  clear hw11 R_x_10 R_y_10 R_b_10 gk10 gz10
                  have c_y_0_11 := R_y_11.cell 0 rfl
                  have c_y_1_11 := R_y_11.cell 1 rfl
                  have c_y_2_11 := R_y_11.cell 2 rfl
                  have c_y_3_11 := R_y_11.cell 3 rfl
                  have c_y_4_11 := R_y_11.cell 4 rfl
                  have c_y_5_11 := R_y_11.cell 5 rfl
                  have c_y_6_11 := R_y_11.cell 6 rfl
                  have c_y_7_11 := R_y_11.cell 7 rfl
                  have c_y_8_11 := R_y_11.cell 8 rfl
                  have c_y_9_11 := R_y_11.cell 9 rfl
                  have l_y_11 := R_y_11.lt
                  have c_b_0_11 := R_b_11.cell 0 rfl
                  have c_b_1_11 := R_b_11.cell 1 rfl
                  have c_b_2_11 := R_b_11.cell 2 rfl
                  have c_b_3_11 := R_b_11.cell 3 rfl
                  have c_b_4_11 := R_b_11.cell 4 rfl
                  have c_b_5_11 := R_b_11.cell 5 rfl
                  have c_b_6_11 := R_b_11.cell 6 rfl
                  have c_b_7_11 := R_b_11.cell 7 rfl
                  have c_b_8_11 := R_b_11.cell 8 rfl
                  have c_b_9_11 := R_b_11.cell 9 rfl
                  have l_b_11 := R_b_11.lt
                  obtain ⟨Y, hY⟩ : ∃ Y, feV (withB B (B.picked.set k (z + 1))) = Y := ⟨_, rfl⟩
                  obtain ⟨M, hM⟩ : ∃ M, feE (withB B (B.picked.set k (z + 1))) = M := ⟨_, rfl⟩
                  have HY := Lib.hid hY
                  have HM := Lib.hid hM
                  obtain ⟨m1, m2⟩ := fee_more HV.out (by rw [HLP.out]; exact hkp) hz hzr2
                  have hY2 := feV_in (more_ok HV.out (by rw [HLP.out]; exact hkp) hz hzr2)
                  rw [hM] at m1 m2
                  rw [hY] at m2 hY2
                  clear hY hM
                  go_wp2_with fail
                  refine (g_Fee_with B (B.picked.set k (z + 1)) _ _ _ _ _ _ _ (BlkIn.own K0.out (by (repeat' (first | (with_reducible exact Below.refl _ _) | (with_reducible assumption) | (with_reducible exact Bw.out (by with_reducible assumption)) | (with_reducible refine bw_alloc ?_ _) | (with_reducible refine bw_step ?_ (by with_reducible assumption)) | (with_reducible refine Below.alloc ?_ ?_ _) | (with_reducible refine Below.drew ?_) | (with_reducible refine below_drewN ?_ _) | (with_reducible refine Below.setCell ?_ ?_ _) | (with_reducible refine below_step ?_ (by with_reducible assumption) ?_) | (with_reducible exact Nat.le_refl _) | omega | (simp; omega) | (simp; done)))) O11.out (by rw [List.length_set]; exact HLP.out) hc1 hc2) Y M HY.out HM.out).mono ?_
                  rintro e w12 ⟨rfl, hb12⟩
                  have R_y_12 : Row w12 (gy) [.int .i64 B.id, .int .i64 B.kind, .int .i64 B.rooms, .int .i64 B.fr, .int .i64 B.un, .slice ca cn cc, .int .i64 B.pn, .int .i64 B.pd, .int .i64 B.fee, .slice (some ⟨g2, 0, none⟩) m cp2] := by (repeat' (first | (with_reducible assumption) | (with_reducible refine Row.new' _ _ _ (by first | rfl | (simp; done) | omega)) | (with_reducible refine Row.alloc ?_ _) | (with_reducible refine Row.drew ?_) | (with_reducible refine Row.drewN ?_ _) | (with_reducible refine Row.step ?_ (by with_reducible assumption)) | (with_reducible refine Row.set2' ?_ _ _; first | exact ⟨_, _, by with_reducible assumption⟩ | exact ⟨_, _, Row.alloc (by with_reducible assumption) _⟩ | exact ⟨_, _, Row.alloc (Row.alloc (by with_reducible assumption) _) _⟩) | (with_reducible refine Row.other ?_ (by first | omega | (simp; done) | (simp; omega)) _)))
                  have c_y_0_12 := R_y_12.cell 0 rfl
                  have c_y_1_12 := R_y_12.cell 1 rfl
                  have c_y_2_12 := R_y_12.cell 2 rfl
                  have c_y_3_12 := R_y_12.cell 3 rfl
                  have c_y_4_12 := R_y_12.cell 4 rfl
                  have c_y_5_12 := R_y_12.cell 5 rfl
                  have c_y_6_12 := R_y_12.cell 6 rfl
                  have c_y_7_12 := R_y_12.cell 7 rfl
                  have c_y_8_12 := R_y_12.cell 8 rfl
                  have c_y_9_12 := R_y_12.cell 9 rfl
                  have z_y_0_12 := R_y_12.frozen 0
                  have z_y_1_12 := R_y_12.frozen 1
                  have z_y_2_12 := R_y_12.frozen 2
                  have z_y_3_12 := R_y_12.frozen 3
                  have z_y_4_12 := R_y_12.frozen 4
                  have z_y_5_12 := R_y_12.frozen 5
                  have z_y_6_12 := R_y_12.frozen 6
                  have z_y_7_12 := R_y_12.frozen 7
                  have z_y_8_12 := R_y_12.frozen 8
                  have z_y_9_12 := R_y_12.frozen 9
                  have l_y_12 := R_y_12.lt
                  have R_b_12 : Row w12 (w.heap.size) [.int .i64 B.id, .int .i64 B.kind, .int .i64 B.rooms, .int .i64 B.fr, .int .i64 B.un, .slice ca cn cc, .int .i64 B.pn, .int .i64 B.pd, .int .i64 B.fee, .slice (some ⟨bb, off, none⟩) m pc] := by (repeat' (first | (with_reducible assumption) | (with_reducible refine Row.new' _ _ _ (by first | rfl | (simp; done) | omega)) | (with_reducible refine Row.alloc ?_ _) | (with_reducible refine Row.drew ?_) | (with_reducible refine Row.drewN ?_ _) | (with_reducible refine Row.step ?_ (by with_reducible assumption)) | (with_reducible refine Row.set2' ?_ _ _; first | exact ⟨_, _, by with_reducible assumption⟩ | exact ⟨_, _, Row.alloc (by with_reducible assumption) _⟩ | exact ⟨_, _, Row.alloc (Row.alloc (by with_reducible assumption) _) _⟩) | (with_reducible refine Row.other ?_ (by first | omega | (simp; done) | (simp; omega)) _)))
                  have c_b_0_12 := R_b_12.cell 0 rfl
                  have c_b_1_12 := R_b_12.cell 1 rfl
                  have c_b_2_12 := R_b_12.cell 2 rfl
                  have c_b_3_12 := R_b_12.cell 3 rfl
                  have c_b_4_12 := R_b_12.cell 4 rfl
                  have c_b_5_12 := R_b_12.cell 5 rfl
                  have c_b_6_12 := R_b_12.cell 6 rfl
                  have c_b_7_12 := R_b_12.cell 7 rfl
                  have c_b_8_12 := R_b_12.cell 8 rfl
                  have c_b_9_12 := R_b_12.cell 9 rfl
                  have l_b_12 := R_b_12.lt
                  have HB12 : Below w.heap.size w w12 := by (repeat' (first | (with_reducible exact Below.refl _ _) | (with_reducible assumption) | (with_reducible exact Bw.out (by with_reducible assumption)) | (with_reducible refine bw_alloc ?_ _) | (with_reducible refine bw_step ?_ (by with_reducible assumption)) | (with_reducible refine Below.alloc ?_ ?_ _) | (with_reducible refine Below.drew ?_) | (with_reducible refine below_drewN ?_ _) | (with_reducible refine Below.setCell ?_ ?_ _) | (with_reducible refine below_step ?_ (by with_reducible assumption) ?_) | (with_reducible exact Nat.le_refl _) | omega | (simp; omega) | (simp; done)))
                  have m3 := m2 HE.out
                  rw [HX.out] at m3
                  obtain ⟨rfl, m4⟩ := m3
                  clear m1 m2
                  have HWY : Hid (IntKind.i64.wrap (Y + B.fee) = Y + B.fee) := IntWalk.i64_in _ (by omega)
                  by_cases hxy2 : X = Y + B.fee
                  · have hxy3 : (X == Y + B.fee) = true := by simpa using hxy2
                    clear hxy2 m4 hX2
                    have hwy := HWY.out
                    go_wp2_with fail
                    clear hwy
                    go_ret
                    refine ⟨(by first | rfl | exact ret_bool (by first | rfl | (simp; done))), ?_⟩
                    (repeat' (first | (with_reducible exact Below.refl _ _) | (with_reducible assumption) | (with_reducible exact Bw.out (by with_reducible assumption)) | (with_reducible refine bw_alloc ?_ _) | (with_reducible refine bw_step ?_ (by with_reducible assumption)) | (with_reducible refine Below.alloc ?_ ?_ _) | (with_reducible refine Below.drew ?_) | (with_reducible refine below_drewN ?_ _) | (with_reducible refine Below.setCell ?_ ?_ _) | (with_reducible refine below_step ?_ (by with_reducible assumption) ?_) | (with_reducible exact Nat.le_refl _) | omega | (simp; omega) | (simp; done)))
                  · have hxy3 : (X == Y + B.fee) = false := by simpa using hxy2
                    obtain ⟨rfl, rfl⟩ : X = 0 ∧ Y = 0 := by omega
                    clear hxy2 m4
                    have hwy := HWY.out
                    go_wp2_with fail
                    clear hwy
                    go_ret
                    refine ⟨(by first | rfl | exact ret_bool (by first | rfl | (simp; done))), ?_⟩
                    (repeat' (first | (with_reducible exact Below.refl _ _) | (with_reducible assumption) | (with_reducible exact Bw.out (by with_reducible assumption)) | (with_reducible refine bw_alloc ?_ _) | (with_reducible refine bw_step ?_ (by with_reducible assumption)) | (with_reducible refine Below.alloc ?_ ?_ _) | (with_reducible refine Below.drew ?_) | (with_reducible refine below_drewN ?_ _) | (with_reducible refine Below.setCell ?_ ?_ _) | (with_reducible refine below_step ?_ (by with_reducible assumption) ?_) | (with_reducible exact Nat.le_refl _) | omega | (simp; omega) | (simp; done)))
            ·
              by_cases hzr : z = B.rooms
              · have hzt : (z == B.rooms) = true := by simpa using hzr
                clear hzr
                go_wp2_with fail
                go_quiet (fail)
                generalize hwq : w9.drewN _ = w10
                have hb10 : Below w9.heap.size w9 w10 := by rw [← hwq]; (repeat' (first | (with_reducible exact Below.refl _ _) | (with_reducible assumption) | (with_reducible exact Bw.out (by with_reducible assumption)) | (with_reducible refine bw_alloc ?_ _) | (with_reducible refine bw_step ?_ (by with_reducible assumption)) | (with_reducible refine Below.alloc ?_ ?_ _) | (with_reducible refine Below.drew ?_) | (with_reducible refine below_drewN ?_ _) | (with_reducible refine Below.setCell ?_ ?_ _) | (with_reducible refine below_step ?_ (by with_reducible assumption) ?_) | (with_reducible exact Nat.le_refl _) | omega | (simp; omega) | (simp; done)))
                clear hwq
                have R_x_10 : Row w10 (gx) [.int .i64 B.id, .int .i64 B.kind, .int .i64 B.rooms, .int .i64 B.fr, .int .i64 B.un, .slice ca cn cc, .int .i64 B.pn, .int .i64 B.pd, .int .i64 B.fee, .slice (some ⟨g3, 0, none⟩) m cp] := by (repeat' (first | (with_reducible assumption) | (with_reducible refine Row.new' _ _ _ (by first | rfl | (simp; done) | omega)) | (with_reducible refine Row.alloc ?_ _) | (with_reducible refine Row.drew ?_) | (with_reducible refine Row.drewN ?_ _) | (with_reducible refine Row.step ?_ (by with_reducible assumption)) | (with_reducible refine Row.set2' ?_ _ _; first | exact ⟨_, _, by with_reducible assumption⟩ | exact ⟨_, _, Row.alloc (by with_reducible assumption) _⟩ | exact ⟨_, _, Row.alloc (Row.alloc (by with_reducible assumption) _) _⟩) | (with_reducible refine Row.other ?_ (by first | omega | (simp; done) | (simp; omega)) _)))
                have c_x_0_10 := R_x_10.cell 0 rfl
                have c_x_1_10 := R_x_10.cell 1 rfl
                have c_x_2_10 := R_x_10.cell 2 rfl
                have c_x_3_10 := R_x_10.cell 3 rfl
                have c_x_4_10 := R_x_10.cell 4 rfl
                have c_x_5_10 := R_x_10.cell 5 rfl
                have c_x_6_10 := R_x_10.cell 6 rfl
                have c_x_7_10 := R_x_10.cell 7 rfl
                have c_x_8_10 := R_x_10.cell 8 rfl
                have c_x_9_10 := R_x_10.cell 9 rfl
                have l_x_10 := R_x_10.lt
                have R_y_10 : Row w10 (gy) [.int .i64 B.id, .int .i64 B.kind, .int .i64 B.rooms, .int .i64 B.fr, .int .i64 B.un, .slice ca cn cc, .int .i64 B.pn, .int .i64 B.pd, .int .i64 B.fee, .slice (some ⟨g2, 0, none⟩) m cp2] := by (repeat' (first | (with_reducible assumption) | (with_reducible refine Row.new' _ _ _ (by first | rfl | (simp; done) | omega)) | (with_reducible refine Row.alloc ?_ _) | (with_reducible refine Row.drew ?_) | (with_reducible refine Row.drewN ?_ _) | (with_reducible refine Row.step ?_ (by with_reducible assumption)) | (with_reducible refine Row.set2' ?_ _ _; first | exact ⟨_, _, by with_reducible assumption⟩ | exact ⟨_, _, Row.alloc (by with_reducible assumption) _⟩ | exact ⟨_, _, Row.alloc (Row.alloc (by with_reducible assumption) _) _⟩) | (with_reducible refine Row.other ?_ (by first | omega | (simp; done) | (simp; omega)) _)))
                have c_y_0_10 := R_y_10.cell 0 rfl
                have c_y_1_10 := R_y_10.cell 1 rfl
                have c_y_2_10 := R_y_10.cell 2 rfl
                have c_y_3_10 := R_y_10.cell 3 rfl
                have c_y_4_10 := R_y_10.cell 4 rfl
                have c_y_5_10 := R_y_10.cell 5 rfl
                have c_y_6_10 := R_y_10.cell 6 rfl
                have c_y_7_10 := R_y_10.cell 7 rfl
                have c_y_8_10 := R_y_10.cell 8 rfl
                have c_y_9_10 := R_y_10.cell 9 rfl
                have z_y_0_10 := R_y_10.frozen 0
                have z_y_1_10 := R_y_10.frozen 1
                have z_y_2_10 := R_y_10.frozen 2
                have z_y_3_10 := R_y_10.frozen 3
                have z_y_4_10 := R_y_10.frozen 4
                have z_y_5_10 := R_y_10.frozen 5
                have z_y_6_10 := R_y_10.frozen 6
                have z_y_7_10 := R_y_10.frozen 7
                have z_y_8_10 := R_y_10.frozen 8
                have z_y_9_10 := R_y_10.frozen 9
                have l_y_10 := R_y_10.lt
                have R_b_10 : Row w10 (w.heap.size) [.int .i64 B.id, .int .i64 B.kind, .int .i64 B.rooms, .int .i64 B.fr, .int .i64 B.un, .slice ca cn cc, .int .i64 B.pn, .int .i64 B.pd, .int .i64 B.fee, .slice (some ⟨bb, off, none⟩) m pc] := by (repeat' (first | (with_reducible assumption) | (with_reducible refine Row.new' _ _ _ (by first | rfl | (simp; done) | omega)) | (with_reducible refine Row.alloc ?_ _) | (with_reducible refine Row.drew ?_) | (with_reducible refine Row.drewN ?_ _) | (with_reducible refine Row.step ?_ (by with_reducible assumption)) | (with_reducible refine Row.set2' ?_ _ _; first | exact ⟨_, _, by with_reducible assumption⟩ | exact ⟨_, _, Row.alloc (by with_reducible assumption) _⟩ | exact ⟨_, _, Row.alloc (Row.alloc (by with_reducible assumption) _) _⟩) | (with_reducible refine Row.other ?_ (by first | omega | (simp; done) | (simp; omega)) _)))
                have c_b_0_10 := R_b_10.cell 0 rfl
                have c_b_1_10 := R_b_10.cell 1 rfl
                have c_b_2_10 := R_b_10.cell 2 rfl
                have c_b_3_10 := R_b_10.cell 3 rfl
                have c_b_4_10 := R_b_10.cell 4 rfl
                have c_b_5_10 := R_b_10.cell 5 rfl
                have c_b_6_10 := R_b_10.cell 6 rfl
                have c_b_7_10 := R_b_10.cell 7 rfl
                have c_b_8_10 := R_b_10.cell 8 rfl
                have c_b_9_10 := R_b_10.cell 9 rfl
                have l_b_10 := R_b_10.lt
                have HB10 : Below w.heap.size w w10 := by (repeat' (first | (with_reducible exact Below.refl _ _) | (with_reducible assumption) | (with_reducible exact Bw.out (by with_reducible assumption)) | (with_reducible refine bw_alloc ?_ _) | (with_reducible refine bw_step ?_ (by with_reducible assumption)) | (with_reducible refine Below.alloc ?_ ?_ _) | (with_reducible refine Below.drew ?_) | (with_reducible refine below_drewN ?_ _) | (with_reducible refine Below.setCell ?_ ?_ _) | (with_reducible refine below_step ?_ (by with_reducible assumption) ?_) | (with_reducible exact Nat.le_refl _) | omega | (simp; omega) | (simp; done)))
                clear R_x_9 c_x_0_9 c_x_1_9 c_x_2_9 c_x_3_9 c_x_4_9 c_x_5_9 c_x_6_9 c_x_7_9 c_x_8_9 c_x_9_9 R_y_9 c_y_0_9 c_y_1_9 c_y_2_9 c_y_3_9 c_y_4_9 c_y_5_9 c_y_6_9 c_y_7_9 c_y_8_9 c_y_9_9 z_y_0_9 z_y_1_9 z_y_2_9 z_y_3_9 z_y_4_9 z_y_5_9 z_y_6_9 z_y_7_9 z_y_8_9 z_y_9_9 R_b_9 c_b_0_9 c_b_1_9 c_b_2_9 c_b_3_9 c_b_4_9 c_b_5_9 c_b_6_9 c_b_7_9 c_b_8_9 c_b_9_9 hb9 HB9
                have O10 : Hid (OwnI w10 g2 B.picked) := O9.out.step hb10
                have gk10 : w10.cell? ⟨g2, k, none⟩ = some (.int .i64 z) := by have := O10.out.cell (i := k) (by rw [HLP.out]; exact hkp); rwa [hz] at this
                have gz10 := O10.out.frozen k
                go_wp2_with fail
                go_ret
                refine ⟨(by first | rfl | exact ret_bool (by first | rfl | (simp; done) | (simp; omega))), ?_⟩
                (repeat' (first | (with_reducible exact Below.refl _ _) | (with_reducible assumption) | (with_reducible exact Bw.out (by with_reducible assumption)) | (with_reducible refine bw_alloc ?_ _) | (with_reducible refine bw_step ?_ (by with_reducible assumption)) | (with_reducible refine Below.alloc ?_ ?_ _) | (with_reducible refine Below.drew ?_) | (with_reducible refine below_drewN ?_ _) | (with_reducible refine Below.setCell ?_ ?_ _) | (with_reducible refine below_step ?_ (by with_reducible assumption) ?_) | (with_reducible exact Nat.le_refl _) | omega | (simp; omega) | (simp; done)))
              · have hzr2 : z < B.rooms := by omega
                have hzn : (z == B.rooms) = false := by simpa using hzr
                clear hzr
                go_wp2_with fail
                go_quiet (fail)
                generalize hwq : w9.drewN _ = w10
                have hb10 : Below w9.heap.size w9 w10 := by rw [← hwq]; (repeat' (first | (with_reducible exact Below.refl _ _) | (with_reducible assumption) | (with_reducible exact Bw.out (by with_reducible assumption)) | (with_reducible refine bw_alloc ?_ _) | (with_reducible refine bw_step ?_ (by with_reducible assumption)) | (with_reducible refine Below.alloc ?_ ?_ _) | (with_reducible refine Below.drew ?_) | (with_reducible refine below_drewN ?_ _) | (with_reducible refine Below.setCell ?_ ?_ _) | (with_reducible refine below_step ?_ (by with_reducible assumption) ?_) | (with_reducible exact Nat.le_refl _) | omega | (simp; omega) | (simp; done)))
                clear hwq
                have R_x_10 : Row w10 (gx) [.int .i64 B.id, .int .i64 B.kind, .int .i64 B.rooms, .int .i64 B.fr, .int .i64 B.un, .slice ca cn cc, .int .i64 B.pn, .int .i64 B.pd, .int .i64 B.fee, .slice (some ⟨g3, 0, none⟩) m cp] := by (repeat' (first | (with_reducible assumption) | (with_reducible refine Row.new' _ _ _ (by first | rfl | (simp; done) | omega)) | (with_reducible refine Row.alloc ?_ _) | (with_reducible refine Row.drew ?_) | (with_reducible refine Row.drewN ?_ _) | (with_reducible refine Row.step ?_ (by with_reducible assumption)) | (with_reducible refine Row.set2' ?_ _ _; first | exact ⟨_, _, by with_reducible assumption⟩ | exact ⟨_, _, Row.alloc (by with_reducible assumption) _⟩ | exact ⟨_, _, Row.alloc (Row.alloc (by with_reducible assumption) _) _⟩) | (with_reducible refine Row.other ?_ (by first | omega | (simp; done) | (simp; omega)) _)))
                have c_x_0_10 := R_x_10.cell 0 rfl
                have c_x_1_10 := R_x_10.cell 1 rfl
                have c_x_2_10 := R_x_10.cell 2 rfl
                have c_x_3_10 := R_x_10.cell 3 rfl
                have c_x_4_10 := R_x_10.cell 4 rfl
                have c_x_5_10 := R_x_10.cell 5 rfl
                have c_x_6_10 := R_x_10.cell 6 rfl
                have c_x_7_10 := R_x_10.cell 7 rfl
                have c_x_8_10 := R_x_10.cell 8 rfl
                have c_x_9_10 := R_x_10.cell 9 rfl
                have l_x_10 := R_x_10.lt
                have R_y_10 : Row w10 (gy) [.int .i64 B.id, .int .i64 B.kind, .int .i64 B.rooms, .int .i64 B.fr, .int .i64 B.un, .slice ca cn cc, .int .i64 B.pn, .int .i64 B.pd, .int .i64 B.fee, .slice (some ⟨g2, 0, none⟩) m cp2] := by (repeat' (first | (with_reducible assumption) | (with_reducible refine Row.new' _ _ _ (by first | rfl | (simp; done) | omega)) | (with_reducible refine Row.alloc ?_ _) | (with_reducible refine Row.drew ?_) | (with_reducible refine Row.drewN ?_ _) | (with_reducible refine Row.step ?_ (by with_reducible assumption)) | (with_reducible refine Row.set2' ?_ _ _; first | exact ⟨_, _, by with_reducible assumption⟩ | exact ⟨_, _, Row.alloc (by with_reducible assumption) _⟩ | exact ⟨_, _, Row.alloc (Row.alloc (by with_reducible assumption) _) _⟩) | (with_reducible refine Row.other ?_ (by first | omega | (simp; done) | (simp; omega)) _)))
                have c_y_0_10 := R_y_10.cell 0 rfl
                have c_y_1_10 := R_y_10.cell 1 rfl
                have c_y_2_10 := R_y_10.cell 2 rfl
                have c_y_3_10 := R_y_10.cell 3 rfl
                have c_y_4_10 := R_y_10.cell 4 rfl
                have c_y_5_10 := R_y_10.cell 5 rfl
                have c_y_6_10 := R_y_10.cell 6 rfl
                have c_y_7_10 := R_y_10.cell 7 rfl
                have c_y_8_10 := R_y_10.cell 8 rfl
                have c_y_9_10 := R_y_10.cell 9 rfl
                have z_y_0_10 := R_y_10.frozen 0
                have z_y_1_10 := R_y_10.frozen 1
                have z_y_2_10 := R_y_10.frozen 2
                have z_y_3_10 := R_y_10.frozen 3
                have z_y_4_10 := R_y_10.frozen 4
                have z_y_5_10 := R_y_10.frozen 5
                have z_y_6_10 := R_y_10.frozen 6
                have z_y_7_10 := R_y_10.frozen 7
                have z_y_8_10 := R_y_10.frozen 8
                have z_y_9_10 := R_y_10.frozen 9
                have l_y_10 := R_y_10.lt
                have R_b_10 : Row w10 (w.heap.size) [.int .i64 B.id, .int .i64 B.kind, .int .i64 B.rooms, .int .i64 B.fr, .int .i64 B.un, .slice ca cn cc, .int .i64 B.pn, .int .i64 B.pd, .int .i64 B.fee, .slice (some ⟨bb, off, none⟩) m pc] := by (repeat' (first | (with_reducible assumption) | (with_reducible refine Row.new' _ _ _ (by first | rfl | (simp; done) | omega)) | (with_reducible refine Row.alloc ?_ _) | (with_reducible refine Row.drew ?_) | (with_reducible refine Row.drewN ?_ _) | (with_reducible refine Row.step ?_ (by with_reducible assumption)) | (with_reducible refine Row.set2' ?_ _ _; first | exact ⟨_, _, by with_reducible assumption⟩ | exact ⟨_, _, Row.alloc (by with_reducible assumption) _⟩ | exact ⟨_, _, Row.alloc (Row.alloc (by with_reducible assumption) _) _⟩) | (with_reducible refine Row.other ?_ (by first | omega | (simp; done) | (simp; omega)) _)))
                have c_b_0_10 := R_b_10.cell 0 rfl
                have c_b_1_10 := R_b_10.cell 1 rfl
                have c_b_2_10 := R_b_10.cell 2 rfl
                have c_b_3_10 := R_b_10.cell 3 rfl
                have c_b_4_10 := R_b_10.cell 4 rfl
                have c_b_5_10 := R_b_10.cell 5 rfl
                have c_b_6_10 := R_b_10.cell 6 rfl
                have c_b_7_10 := R_b_10.cell 7 rfl
                have c_b_8_10 := R_b_10.cell 8 rfl
                have c_b_9_10 := R_b_10.cell 9 rfl
                have l_b_10 := R_b_10.lt
                have HB10 : Below w.heap.size w w10 := by (repeat' (first | (with_reducible exact Below.refl _ _) | (with_reducible assumption) | (with_reducible exact Bw.out (by with_reducible assumption)) | (with_reducible refine bw_alloc ?_ _) | (with_reducible refine bw_step ?_ (by with_reducible assumption)) | (with_reducible refine Below.alloc ?_ ?_ _) | (with_reducible refine Below.drew ?_) | (with_reducible refine below_drewN ?_ _) | (with_reducible refine Below.setCell ?_ ?_ _) | (with_reducible refine below_step ?_ (by with_reducible assumption) ?_) | (with_reducible exact Nat.le_refl _) | omega | (simp; omega) | (simp; done)))
                clear R_x_9 c_x_0_9 c_x_1_9 c_x_2_9 c_x_3_9 c_x_4_9 c_x_5_9 c_x_6_9 c_x_7_9 c_x_8_9 c_x_9_9 R_y_9 c_y_0_9 c_y_1_9 c_y_2_9 c_y_3_9 c_y_4_9 c_y_5_9 c_y_6_9 c_y_7_9 c_y_8_9 c_y_9_9 z_y_0_9 z_y_1_9 z_y_2_9 z_y_3_9 z_y_4_9 z_y_5_9 z_y_6_9 z_y_7_9 z_y_8_9 z_y_9_9 R_b_9 c_b_0_9 c_b_1_9 c_b_2_9 c_b_3_9 c_b_4_9 c_b_5_9 c_b_6_9 c_b_7_9 c_b_8_9 c_b_9_9 hb9 HB9
                have O10 : Hid (OwnI w10 g2 B.picked) := O9.out.step hb10
                have gk10 : w10.cell? ⟨g2, k, none⟩ = some (.int .i64 z) := by have := O10.out.cell (i := k) (by rw [HLP.out]; exact hkp); rwa [hz] at this
                have gz10 := O10.out.frozen k
                have hwz : IntKind.i64.wrap (z + 1) = z + 1 := IntWalk.i64_in _ (by omega)
                go_upto_region 23 with fail
                clear hwz
                obtain ⟨w11, hw11⟩ : ∃ wd, w10.setCell ⟨g2, k, none⟩ (.int .i64 (z + 1)) = wd := ⟨_, rfl⟩
                rw [hw11]
                have R_y_11 : Row w11 gy [.int .i64 B.id, .int .i64 B.kind, .int .i64 B.rooms, .int .i64 B.fr, .int .i64 B.un, .slice ca cn cc, .int .i64 B.pn, .int .i64 B.pd, .int .i64 B.fee, .slice (some ⟨g2, 0, none⟩) m cp2] := by rw [← hw11]; exact R_y_10.other (by simp; omega) _
                have R_b_11 : Row w11 w.heap.size [.int .i64 B.id, .int .i64 B.kind, .int .i64 B.rooms, .int .i64 B.fr, .int .i64 B.un, .slice ca cn cc, .int .i64 B.pn, .int .i64 B.pd, .int .i64 B.fee, .slice (some ⟨bb, off, none⟩) m pc] := by rw [← hw11]; exact R_b_10.other (by simp; omega) _
                have O11 : Hid (OwnI w11 g2 (B.picked.set k (z + 1))) := by rw [← hw11]; exact O10.out.set (by rw [HLP.out]; exact hkp) _
                have HB11 : Below w.heap.size w w11 := by rw [← hw11]; exact HB10.setCell (by simp; omega) _
                clear hw11 R_x_10 R_y_10 R_b_10 gk10 gz10
                have c_y_0_11 := R_y_11.cell 0 rfl
                have c_y_1_11 := R_y_11.cell 1 rfl
                have c_y_2_11 := R_y_11.cell 2 rfl
                have c_y_3_11 := R_y_11.cell 3 rfl
                have c_y_4_11 := R_y_11.cell 4 rfl
                have c_y_5_11 := R_y_11.cell 5 rfl
                have c_y_6_11 := R_y_11.cell 6 rfl
                have c_y_7_11 := R_y_11.cell 7 rfl
                have c_y_8_11 := R_y_11.cell 8 rfl
                have c_y_9_11 := R_y_11.cell 9 rfl
                have l_y_11 := R_y_11.lt
                have c_b_0_11 := R_b_11.cell 0 rfl
                have c_b_1_11 := R_b_11.cell 1 rfl
                have c_b_2_11 := R_b_11.cell 2 rfl
                have c_b_3_11 := R_b_11.cell 3 rfl
                have c_b_4_11 := R_b_11.cell 4 rfl
                have c_b_5_11 := R_b_11.cell 5 rfl
                have c_b_6_11 := R_b_11.cell 6 rfl
                have c_b_7_11 := R_b_11.cell 7 rfl
                have c_b_8_11 := R_b_11.cell 8 rfl
                have c_b_9_11 := R_b_11.cell 9 rfl
                have l_b_11 := R_b_11.lt
                obtain ⟨Y, hY⟩ : ∃ Y, feV (withB B (B.picked.set k (z + 1))) = Y := ⟨_, rfl⟩
                obtain ⟨M, hM⟩ : ∃ M, feE (withB B (B.picked.set k (z + 1))) = M := ⟨_, rfl⟩
                have HY := Lib.hid hY
                have HM := Lib.hid hM
                obtain ⟨m1, m2⟩ := fee_more HV.out (by rw [HLP.out]; exact hkp) hz hzr2
                have hY2 := feV_in (more_ok HV.out (by rw [HLP.out]; exact hkp) hz hzr2)
                rw [hM] at m1 m2
                rw [hY] at m2 hY2
                clear hY hM
                go_wp2_with fail
                refine (g_Fee_with B (B.picked.set k (z + 1)) _ _ _ _ _ _ _ (BlkIn.own K0.out (by (repeat' (first | (with_reducible exact Below.refl _ _) | (with_reducible assumption) | (with_reducible exact Bw.out (by with_reducible assumption)) | (with_reducible refine bw_alloc ?_ _) | (with_reducible refine bw_step ?_ (by with_reducible assumption)) | (with_reducible refine Below.alloc ?_ ?_ _) | (with_reducible refine Below.drew ?_) | (with_reducible refine below_drewN ?_ _) | (with_reducible refine Below.setCell ?_ ?_ _) | (with_reducible refine below_step ?_ (by with_reducible assumption) ?_) | (with_reducible exact Nat.le_refl _) | omega | (simp; omega) | (simp; done)))) O11.out (by rw [List.length_set]; exact HLP.out) hc1 hc2) Y M HY.out HM.out).mono ?_
                rintro e w12 ⟨rfl, hb12⟩
                have R_y_12 : Row w12 (gy) [.int .i64 B.id, .int .i64 B.kind, .int .i64 B.rooms, .int .i64 B.fr, .int .i64 B.un, .slice ca cn cc, .int .i64 B.pn, .int .i64 B.pd, .int .i64 B.fee, .slice (some ⟨g2, 0, none⟩) m cp2] := by (repeat' (first | (with_reducible assumption) | (with_reducible refine Row.new' _ _ _ (by first | rfl | (simp; done) | omega)) | (with_reducible refine Row.alloc ?_ _) | (with_reducible refine Row.drew ?_) | (with_reducible refine Row.drewN ?_ _) | (with_reducible refine Row.step ?_ (by with_reducible assumption)) | (with_reducible refine Row.set2' ?_ _ _; first | exact ⟨_, _, by with_reducible assumption⟩ | exact ⟨_, _, Row.alloc (by with_reducible assumption) _⟩ | exact ⟨_, _, Row.alloc (Row.alloc (by with_reducible assumption) _) _⟩) | (with_reducible refine Row.other ?_ (by first | omega | (simp; done) | (simp; omega)) _)))
                have c_y_0_12 := R_y_12.cell 0 rfl
                have c_y_1_12 := R_y_12.cell 1 rfl
                have c_y_2_12 := R_y_12.cell 2 rfl
                have c_y_3_12 := R_y_12.cell 3 rfl
                have c_y_4_12 := R_y_12.cell 4 rfl
                have c_y_5_12 := R_y_12.cell 5 rfl
                have c_y_6_12 := R_y_12.cell 6 rfl
                have c_y_7_12 := R_y_12.cell 7 rfl
                have c_y_8_12 := R_y_12.cell 8 rfl
                have c_y_9_12 := R_y_12.cell 9 rfl
                have z_y_0_12 := R_y_12.frozen 0
                have z_y_1_12 := R_y_12.frozen 1
                have z_y_2_12 := R_y_12.frozen 2
                have z_y_3_12 := R_y_12.frozen 3
                have z_y_4_12 := R_y_12.frozen 4
                have z_y_5_12 := R_y_12.frozen 5
                have z_y_6_12 := R_y_12.frozen 6
                have z_y_7_12 := R_y_12.frozen 7
                have z_y_8_12 := R_y_12.frozen 8
                have z_y_9_12 := R_y_12.frozen 9
                have l_y_12 := R_y_12.lt
                have R_b_12 : Row w12 (w.heap.size) [.int .i64 B.id, .int .i64 B.kind, .int .i64 B.rooms, .int .i64 B.fr, .int .i64 B.un, .slice ca cn cc, .int .i64 B.pn, .int .i64 B.pd, .int .i64 B.fee, .slice (some ⟨bb, off, none⟩) m pc] := by (repeat' (first | (with_reducible assumption) | (with_reducible refine Row.new' _ _ _ (by first | rfl | (simp; done) | omega)) | (with_reducible refine Row.alloc ?_ _) | (with_reducible refine Row.drew ?_) | (with_reducible refine Row.drewN ?_ _) | (with_reducible refine Row.step ?_ (by with_reducible assumption)) | (with_reducible refine Row.set2' ?_ _ _; first | exact ⟨_, _, by with_reducible assumption⟩ | exact ⟨_, _, Row.alloc (by with_reducible assumption) _⟩ | exact ⟨_, _, Row.alloc (Row.alloc (by with_reducible assumption) _) _⟩) | (with_reducible refine Row.other ?_ (by first | omega | (simp; done) | (simp; omega)) _)))
                have c_b_0_12 := R_b_12.cell 0 rfl
                have c_b_1_12 := R_b_12.cell 1 rfl
                have c_b_2_12 := R_b_12.cell 2 rfl
                have c_b_3_12 := R_b_12.cell 3 rfl
                have c_b_4_12 := R_b_12.cell 4 rfl
                have c_b_5_12 := R_b_12.cell 5 rfl
                have c_b_6_12 := R_b_12.cell 6 rfl
                have c_b_7_12 := R_b_12.cell 7 rfl
                have c_b_8_12 := R_b_12.cell 8 rfl
                have c_b_9_12 := R_b_12.cell 9 rfl
                have l_b_12 := R_b_12.lt
                have HB12 : Below w.heap.size w w12 := by (repeat' (first | (with_reducible exact Below.refl _ _) | (with_reducible assumption) | (with_reducible exact Bw.out (by with_reducible assumption)) | (with_reducible refine bw_alloc ?_ _) | (with_reducible refine bw_step ?_ (by with_reducible assumption)) | (with_reducible refine Below.alloc ?_ ?_ _) | (with_reducible refine Below.drew ?_) | (with_reducible refine below_drewN ?_ _) | (with_reducible refine Below.setCell ?_ ?_ _) | (with_reducible refine below_step ?_ (by with_reducible assumption) ?_) | (with_reducible exact Nat.le_refl _) | omega | (simp; omega) | (simp; done)))
                clear m2 hY2
                rcases m1 with rfl | rfl
                · go_wp2_with fail
                  go_ret
                  refine ⟨(by first | rfl | exact ret_bool (by first | rfl | (simp; done) | (simp; omega))), ?_⟩
                  (repeat' (first | (with_reducible exact Below.refl _ _) | (with_reducible assumption) | (with_reducible exact Bw.out (by with_reducible assumption)) | (with_reducible refine bw_alloc ?_ _) | (with_reducible refine bw_step ?_ (by with_reducible assumption)) | (with_reducible refine Below.alloc ?_ ?_ _) | (with_reducible refine Below.drew ?_) | (with_reducible refine below_drewN ?_ _) | (with_reducible refine Below.setCell ?_ ?_ _) | (with_reducible refine below_step ?_ (by with_reducible assumption) ?_) | (with_reducible exact Nat.le_refl _) | omega | (simp; omega) | (simp; done)))
                · go_wp2_with fail
                  go_ret
                  refine ⟨(by first | rfl | exact ret_bool (by first | rfl | (simp; done) | (simp; omega))), ?_⟩
                  (repeat' (first | (with_reducible exact Below.refl _ _) | (with_reducible assumption) | (with_reducible exact Bw.out (by with_reducible assumption)) | (with_reducible refine bw_alloc ?_ _) | (with_reducible refine bw_step ?_ (by with_reducible assumption)) | (with_reducible refine Below.alloc ?_ ?_ _) | (with_reducible refine Below.drew ?_) | (with_reducible refine below_drewN ?_ _) | (with_reducible refine Below.setCell ?_ ?_ _) | (with_reducible refine below_step ?_ (by with_reducible assumption) ?_) | (with_reducible exact Nat.le_refl _) | omega | (simp; omega) | (simp; done)))


set_option maxRecDepth 100000 in
theorem groupFees_lifted (os : Os) (started : os.Started) (H : Type) (enc : TypeId × Value → H) :
    ReturnsInHanded {} Try.checked os 8 .any (Rows.groupFeesSpec.pre6 enc Try.prog Try.f8 Rows.groupFeesRow.domain false) (Rows.groupFeesSpec.post enc Try.prog Try.f8 false true false false) := by
  refine returnsInHanded_of_change (C := Try.checked) own started (by kernel_rfl) Try.func8
    (ChangeSpec.witness6 (enc := enc) (C := Try.checked) false ⟨#[], #[.agg #[.int .i64 0, .int .i64 0, .int .i64 0, .int .i64 0, .int .i64 0, .slice none 0 0, .int .i64 0, .int .i64 0, .int .i64 0, .slice none 0 0], .int .u16 0], []⟩ 8 (by kernel_rfl) (by kernel_rfl) (by kernel_rfl) (by kernel_rfl)) ?_
  intro W base args ds gs before hval0 hW _ _
  have hval : ∀ (j : Nat) t v, Try.f8.params[j]? = some t → args[j]? = some v → Value.okWide Try.prog W .any base t v := hval0
  have hW' := hW
  obtain ⟨p, q, hA0, hV, rfl, hfz, hnd⟩ := hW
  obtain ⟨rfl, rfl⟩ := trodVars_none hV
  have hA : DataW.TrodAll enc Try.prog W 0 (fun _ => true) true Try.f8.params.toList args.toList ds p := hA0
  rw [Try.params8] at hA hval
  obtain ⟨v0, vs0, d0, ds0, p0, q0, hargs, rfl, rfl, h0, r0⟩ := trodAll_cons hA
  obtain ⟨v1, vs1, d1, ds1, p1, q1, rfl, rfl, rfl, h1, r1⟩ := trodAll_cons r0
  obtain ⟨rfl, rfl, rfl⟩ := trodAll_nil r1
  obtain rfl : args = #[v0, v1] := by cases args; simp_all
  obtain ⟨b, ca_b, cn_b, cc_b, pa_b, pm_b, pc_b, rfl, hs_b, wf_b⟩ := block_of (hval 0 29 v0 rfl rfl) h0
  obtain ⟨q, rfl, rfl, rfl, wq⟩ := open_int Try.underlying40 (hval 1 40 v1 rfl rfl) h1
  clear hA0 hval0
  refine (gfee_walk b _ _ _ _ _ _ q wf_b wq W hs_b).mono fun e W' ⟨he, hb⟩ => ?_
  subst he
  exact ⟨_, rfl, law_post (B := 4) laidOut (by rw [Try.params8]; simp only [List.mem_cons, List.not_mem_nil, or_false, forall_eq_or_imp, forall_eq]; first | exact readable_groupFees | (repeat' apply And.intro) <;> first | exact of_decide_eq_true (by kernel_rfl) | kernel_rfl) rfl Try.underlying4 rfl rfl hW' hb⟩

theorem groupFees_over : Rows.groupFeesRow.holds Try.pinned (OpenSpec.ofChange Rows.groupFeesSpec) :=
  OpenClaim.holds_of_wide 8 Try.f8 rfl rfl rfl rfl rfl rfl rfl ⟨rfl, rfl, rfl, rfl, rfl⟩ rfl rfl rfl rfl rfl (by kernel_rfl) Try.func8 (by kernel_rfl)
    (of_decide_eq_true (by kernel_rfl)) (by unfold Func.isWrapper; first | (rw [if_pos (by decide +kernel)]; kernel_rfl) | (rw [if_neg (by decide +kernel)]; exact ⟨rfl, rfl⟩))
    (fun os started H enc _ => groupFees_lifted os started H enc)

theorem groupFees_holds : Rows.GroupFeesSaid := groupFees_over
#print axioms groupFees_holds
end Go.Proofs.Ytjmlkdopbiedaaa
