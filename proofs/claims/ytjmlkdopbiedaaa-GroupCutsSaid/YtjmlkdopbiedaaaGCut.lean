/-
  GroupCuts: with a cut on the day that keeps everything the same is held on it; with one that keeps nothing exactly what is picked up.
  No condition: for every input.
-/
import Derived.Test.YtjmlkdopbiedaaaRowC
import Derived.Test.YtjmlkdopbiedaaaGrpW
import Derived.Test.YtjmlkdopbiedaaaHeldQ
import Derived.Deep.DeepCutAuto
namespace Go.Proofs.Ytjmlkdopbiedaaa
set_option linter.unusedSimpArgs false
set_option linter.unusedVariables false
open Go.ChangeShapes Go.WideShapes Go.ChangeAt Go.RowKit

/-- The block with other cuts. -/
def cutW (B : Blk) (l : List CutV) : Blk := { B with cuts := l }
theorem getD_snoc {l : List CutV} {x : CutV} {i : Nat} (h : i < l.length) : (l ++ [x]).getD i cut0 = l.getD i cut0 := by
  simp [List.getD, List.getElem?_append_left h]
theorem getD_snoc' {l : List CutV} {x : CutV} : (l ++ [x]).getD l.length cut0 = x := by simp [List.getD]
theorem cuts_snoc {l : List CutV} {day kn : Int} (h : cutsB l = true) (hd : inR day 0 366 = true) (hk : partB kn 1 = true) (hl : ∀ i, i + 1 = l.length → (l.getD i cut0).1 < day) : cutsB (l ++ [(day, kn, 1)]) = true := by
  rw [cutsB_iff] at h ⊢
  intro i hi
  rw [List.length_append] at hi
  rcases Nat.lt_or_ge i l.length with hil | hil
  · have := h i hil
    unfold cutB at this ⊢
    rw [getD_snoc hil]
    rcases Nat.eq_zero_or_pos i with h0 | h0
    · subst h0; simpa using this
    · rw [getD_snoc (show i - 1 < l.length by omega)]; exact this
  · obtain rfl : i = l.length := by simp at hi; omega
    unfold cutB
    rw [getD_snoc', Bool.and_eq_true, Bool.and_eq_true, Bool.or_eq_true]
    refine ⟨⟨hd, hk⟩, ?_⟩
    rcases Nat.eq_zero_or_pos l.length with h0 | h0
    · exact Or.inl (by simpa using h0)
    · refine Or.inr (decide_eq_true ?_)
      rw [getD_snoc (show l.length - 1 < l.length by omega)]
      exact hl _ (by omega)
theorem cutW_ok {B : Blk} {day kn : Int} (h : blkB B = true) (hd : inR day 0 366 = true) (hk : partB kn 1 = true) (hf : B.cuts.length < 20) (hl : ∀ i, i + 1 = B.cuts.length → (B.cuts.getD i cut0).1 < day) : blkB (cutW B (B.cuts ++ [(day, kn, 1)])) = true := by
  have ok := blkB_ok h
  unfold blkB at h ⊢
  rw [Bool.and_eq_true, Bool.and_eq_true, Bool.and_eq_true] at h ⊢
  refine ⟨⟨h.1.1, ?_⟩, cuts_snoc ok.cuts hd hk hl, h.2.2⟩
  have := h.1.2
  rw [spanB_iff] at this ⊢
  obtain ⟨a, b, c, d, e⟩ := this
  exact ⟨a, b, c, d, by show (B.cuts ++ [(day, kn, 1)]).length ≤ 20; rw [List.length_append]; simp; omega⟩
theorem held_okC {B : Blk} {day n : Int} {j : Nat} (h : blkB B = true) (hd : inR day 0 366 = true) (hn : n = B.fr + j) (hj : j < B.picked.length) : heE B day n = 0 ∧ heV B day n = max (limI B day) (B.picked.getD j 0) := by
  have ok := blkB_ok h
  have hh : hasB B.fr B.un n = true := by have := ok.len; rw [hasB_iff]; omega
  have e : heE B day n = 0 := by unfold heE; rw [h, hd, hh]; rfl
  refine ⟨e, ?_⟩
  unfold heV
  rw [if_pos e, show (n - B.fr).toNat = j by omega]
theorem limI_all (B : Blk) {day T : Int} (h : day ≤ T) : limI (cutW B (B.cuts ++ [(day, 1, 1)])) T = limI B T := by
  show limR T B.rooms (B.cuts ++ [(day, 1, 1)]) = limR T B.rooms B.cuts
  rw [limR_snoc, if_pos h]
  show rnd 2 (limR T B.rooms B.cuts * 1) 1 = _
  exact rnd_whole 2 _ (by omega)
theorem limI_none (B : Blk) {day T : Int} (h : day ≤ T) : limI (cutW B (B.cuts ++ [(day, 0, 1)])) T = 0 := by
  show limR T B.rooms (B.cuts ++ [(day, 0, 1)]) = 0
  rw [limR_snoc, if_pos h]
  show rnd 2 (_ * 0) 1 = 0
  rw [Int.mul_zero]
  exact rnd_zero 2 (by omega)
theorem SlI.cellOf {w : World} {b off n : Nat} {zs : List Int} (h : SlI w (some ⟨b, off, none⟩) n zs) {i : Nat} (hi : i < n) : CellAt w b (off + i) (.int .i64 (zs.getD i 0)) := by
  obtain ⟨b', off', e, hc⟩ := h.2 i hi
  cases e
  exact hc
theorem g_Held_cut (B : Blk) (l : List CutV) (day n : Int) (ca : Option Addr) (cn cc : Nat) (pa : Option Addr) (pm pc : Nat) (w : World) (hin : BlkIn w (cutW B l) ca cn cc pa pm pc) (V E : Int) (hV : heV (cutW B l) day n = V) (hE : heE (cutW B l) day n = E) :
    Calls Try.prog 11 #[.agg #[.int .i64 B.id, .int .i64 B.kind, .int .i64 B.rooms, .int .i64 B.fr, .int .i64 B.un, .slice ca cn cc, .int .i64 B.pn, .int .i64 B.pd, .int .i64 B.fee, .slice pa pm pc], .int .i64 day, .int .i64 n] w fun e w' => e = .returned (.tuple #[.int .i64 V, .int .i64 E]) ∧ Below w.heap.size w w' :=
  g_Held_any (cutW B l) day n ca cn cc pa pm pc w hin V E hV hE
theorem BlkIn.cut {w : World} {B : Blk} {ca : Option Addr} {cn cc : Nat} {pa : Option Addr} {pm pc : Nat} (h : BlkIn w B ca cn cc pa pm pc) {w' : World} {l : List CutV} {a : Option Addr} {n c : Nat} (hb : Below w.heap.size w w') (ho : Sl3 w' a n l) (h1 : n ≤ c) (h2 : c ≤ maxLen) :
    BlkIn w' (cutW B l) a n c pa pm pc :=
  ⟨ho, h.picked.below hb, ⟨h1, by unfold maxLen at h2; omega⟩, h.pcap⟩

set_option maxRecDepth 100000 in
set_option maxHeartbeats 12800000 in
theorem gcut_walk (B : Blk) (ca : Option Addr) (cn cc : Nat) (pa : Option Addr) (pm pc : Nat) (day l q : Int) (_ : BlkWf B) (_ : (Lit.int .i64 day).wf = true) (wl : (Lit.int .u16 l).wf = true) (wq : (Lit.int .u16 q).wf = true) (w : World) (K : BlkIn w B ca cn cc pa pm pc) :
    Calls Try.prog 5 #[.agg #[.int .i64 B.id, .int .i64 B.kind, .int .i64 B.rooms, .int .i64 B.fr, .int .i64 B.un, .slice ca cn cc, .int .i64 B.pn, .int .i64 B.pd, .int .i64 B.fee, .slice pa pm pc], .int .i64 day, .int .u16 l, .int .u16 q] w fun e w' => e = .returned (.bool true) ∧ Below w.heap.size w w' := by
  have hl := bd_u16 wl
  have hq := bd_u16 wq
  obtain ⟨l0, l1⟩ := hl
  clear wl wq
  have K0 := Lib.hid K
  cases hu : usaB B cn pm day with
  | false =>
    have HU := Lib.hid hu
    clear hu K
    go_enter Try.func5, Try.ntmps5
    go_wp2_with fail
    refine (head_any _).mono ?_
    rintro e w1 ⟨rfl, hb1⟩
    have R_b_1 : Row w1 (w.heap.size) [.int .i64 B.id, .int .i64 B.kind, .int .i64 B.rooms, .int .i64 B.fr, .int .i64 B.un, .slice ca cn cc, .int .i64 B.pn, .int .i64 B.pd, .int .i64 B.fee, .slice pa pm pc] := by (repeat' (first | (with_reducible assumption) | (with_reducible refine Row.new' _ _ _ (by first | rfl | (simp; done) | omega)) | (with_reducible refine Row.alloc ?_ _) | (with_reducible refine Row.drew ?_) | (with_reducible refine Row.drewN ?_ _) | (with_reducible refine Row.step ?_ (by with_reducible assumption)) | (with_reducible refine Row.set2' ?_ _ _; first | exact ⟨_, _, by with_reducible assumption⟩ | exact ⟨_, _, Row.alloc (by with_reducible assumption) _⟩ | exact ⟨_, _, Row.alloc (Row.alloc (by with_reducible assumption) _) _⟩) | (with_reducible refine Row.other ?_ (by first | omega | (simp; done) | (simp; omega)) _)))
    have c_b_0_1 := R_b_1.cell 0 rfl
    have c_b_1_1 := R_b_1.cell 1 rfl
    have c_b_2_1 := R_b_1.cell 2 rfl
    have c_b_3_1 := R_b_1.cell 3 rfl
    have c_b_4_1 := R_b_1.cell 4 rfl
    have c_b_5_1 := R_b_1.cell 5 rfl
    have c_b_6_1 := R_b_1.cell 6 rfl
    have c_b_7_1 := R_b_1.cell 7 rfl
    have c_b_8_1 := R_b_1.cell 8 rfl
    have c_b_9_1 := R_b_1.cell 9 rfl
    have l_b_1 := R_b_1.lt
    have HB1 : Below w.heap.size w w1 := by (repeat' (first | (with_reducible exact Below.refl _ _) | (with_reducible assumption) | (with_reducible exact Bw.out (by with_reducible assumption)) | (with_reducible refine bw_alloc ?_ _) | (with_reducible refine bw_step ?_ (by with_reducible assumption)) | (with_reducible refine Below.alloc ?_ ?_ _) | (with_reducible refine Below.drew ?_) | (with_reducible refine below_drewN ?_ _) | (with_reducible refine Below.setCell ?_ ?_ _) | (with_reducible refine below_step ?_ (by with_reducible assumption) ?_) | (with_reducible exact Nat.le_refl _) | omega | (simp; omega) | (simp; done)))
    go_wp2_with fail
    refine (l_usable B day _ _ _ _ _ _ _ (K0.out.below (by (repeat' (first | (with_reducible exact Below.refl _ _) | (with_reducible assumption) | (with_reducible exact Bw.out (by with_reducible assumption)) | (with_reducible refine bw_alloc ?_ _) | (with_reducible refine bw_step ?_ (by with_reducible assumption)) | (with_reducible refine Below.alloc ?_ ?_ _) | (with_reducible refine Below.drew ?_) | (with_reducible refine below_drewN ?_ _) | (with_reducible refine Below.setCell ?_ ?_ _) | (with_reducible refine below_step ?_ (by with_reducible assumption) ?_) | (with_reducible exact Nat.le_refl _) | omega | (simp; omega) | (simp; done))))) false HU.out).mono ?_
    rintro e w2 ⟨rfl, hb2⟩
    have R_b_2 : Row w2 (w.heap.size) [.int .i64 B.id, .int .i64 B.kind, .int .i64 B.rooms, .int .i64 B.fr, .int .i64 B.un, .slice ca cn cc, .int .i64 B.pn, .int .i64 B.pd, .int .i64 B.fee, .slice pa pm pc] := by (repeat' (first | (with_reducible assumption) | (with_reducible refine Row.new' _ _ _ (by first | rfl | (simp; done) | omega)) | (with_reducible refine Row.alloc ?_ _) | (with_reducible refine Row.drew ?_) | (with_reducible refine Row.drewN ?_ _) | (with_reducible refine Row.step ?_ (by with_reducible assumption)) | (with_reducible refine Row.set2' ?_ _ _; first | exact ⟨_, _, by with_reducible assumption⟩ | exact ⟨_, _, Row.alloc (by with_reducible assumption) _⟩ | exact ⟨_, _, Row.alloc (Row.alloc (by with_reducible assumption) _) _⟩) | (with_reducible refine Row.other ?_ (by first | omega | (simp; done) | (simp; omega)) _)))
    have c_b_0_2 := R_b_2.cell 0 rfl
    have c_b_1_2 := R_b_2.cell 1 rfl
    have c_b_2_2 := R_b_2.cell 2 rfl
    have c_b_3_2 := R_b_2.cell 3 rfl
    have c_b_4_2 := R_b_2.cell 4 rfl
    have c_b_5_2 := R_b_2.cell 5 rfl
    have c_b_6_2 := R_b_2.cell 6 rfl
    have c_b_7_2 := R_b_2.cell 7 rfl
    have c_b_8_2 := R_b_2.cell 8 rfl
    have c_b_9_2 := R_b_2.cell 9 rfl
    have l_b_2 := R_b_2.lt
    have HB2 : Below w.heap.size w w2 := by (repeat' (first | (with_reducible exact Below.refl _ _) | (with_reducible assumption) | (with_reducible exact Bw.out (by with_reducible assumption)) | (with_reducible refine bw_alloc ?_ _) | (with_reducible refine bw_step ?_ (by with_reducible assumption)) | (with_reducible refine Below.alloc ?_ ?_ _) | (with_reducible refine Below.drew ?_) | (with_reducible refine below_drewN ?_ _) | (with_reducible refine Below.setCell ?_ ?_ _) | (with_reducible refine below_step ?_ (by with_reducible assumption) ?_) | (with_reducible exact Nat.le_refl _) | omega | (simp; omega) | (simp; done)))
    clear R_b_1 c_b_0_1 c_b_1_1 c_b_2_1 c_b_3_1 c_b_4_1 c_b_5_1 c_b_6_1 c_b_7_1 c_b_8_1 c_b_9_1 hb1 HB1
    go_wp2_with fail
    go_ret
    refine ⟨(by first | rfl | exact ret_bool (by first | rfl | (simp; done) | (simp; omega))), ?_⟩
    (repeat' (first | (with_reducible exact Below.refl _ _) | (with_reducible assumption) | (with_reducible exact Bw.out (by with_reducible assumption)) | (with_reducible refine bw_alloc ?_ _) | (with_reducible refine bw_step ?_ (by with_reducible assumption)) | (with_reducible refine Below.alloc ?_ ?_ _) | (with_reducible refine Below.drew ?_) | (with_reducible refine below_drewN ?_ _) | (with_reducible refine Below.setCell ?_ ?_ _) | (with_reducible refine below_step ?_ (by with_reducible assumption) ?_) | (with_reducible exact Nat.le_refl _) | omega | (simp; omega) | (simp; done)))
  | true =>
    have HU := Lib.hid hu
    obtain ⟨hv, d0, d1, hd⟩ := usaB_iff hu
    have ok := blkB_ok hv
    have o1 := ok.fr
    have o2 := ok.lt
    have o3 := ok.un
    have hpl : B.picked.length = pm := K.picked.1
    have HLC : Hid (B.cuts.length = cn) := K.cuts.1
    have hc20 : cn ≤ 20 := by have := ok.few; rw [HLC.out] at this; exact this
    have hpm : 0 < pm := by have := ok.len; rw [hpl] at this; omega
    obtain ⟨bb, off, hpa, _, _⟩ := K.picked.at hpm
    subst hpa
    clear hu
    by_cases hc : 20 ≤ cn
    · have hci : (20 : Int) ≤ (cn : Int) := by omega
      clear K
      go_enter Try.func5, Try.ntmps5
      go_wp2_with fail
      refine (head_any _).mono ?_
      rintro e w1 ⟨rfl, hb1⟩
      have R_b_1 : Row w1 (w.heap.size) [.int .i64 B.id, .int .i64 B.kind, .int .i64 B.rooms, .int .i64 B.fr, .int .i64 B.un, .slice ca cn cc, .int .i64 B.pn, .int .i64 B.pd, .int .i64 B.fee, .slice (some ⟨bb, off, none⟩) pm pc] := by (repeat' (first | (with_reducible assumption) | (with_reducible refine Row.new' _ _ _ (by first | rfl | (simp; done) | omega)) | (with_reducible refine Row.alloc ?_ _) | (with_reducible refine Row.drew ?_) | (with_reducible refine Row.drewN ?_ _) | (with_reducible refine Row.step ?_ (by with_reducible assumption)) | (with_reducible refine Row.set2' ?_ _ _; first | exact ⟨_, _, by with_reducible assumption⟩ | exact ⟨_, _, Row.alloc (by with_reducible assumption) _⟩ | exact ⟨_, _, Row.alloc (Row.alloc (by with_reducible assumption) _) _⟩) | (with_reducible refine Row.other ?_ (by first | omega | (simp; done) | (simp; omega)) _)))
      have c_b_0_1 := R_b_1.cell 0 rfl
      have c_b_1_1 := R_b_1.cell 1 rfl
      have c_b_2_1 := R_b_1.cell 2 rfl
      have c_b_3_1 := R_b_1.cell 3 rfl
      have c_b_4_1 := R_b_1.cell 4 rfl
      have c_b_5_1 := R_b_1.cell 5 rfl
      have c_b_6_1 := R_b_1.cell 6 rfl
      have c_b_7_1 := R_b_1.cell 7 rfl
      have c_b_8_1 := R_b_1.cell 8 rfl
      have c_b_9_1 := R_b_1.cell 9 rfl
      have l_b_1 := R_b_1.lt
      have HB1 : Below w.heap.size w w1 := by (repeat' (first | (with_reducible exact Below.refl _ _) | (with_reducible assumption) | (with_reducible exact Bw.out (by with_reducible assumption)) | (with_reducible refine bw_alloc ?_ _) | (with_reducible refine bw_step ?_ (by with_reducible assumption)) | (with_reducible refine Below.alloc ?_ ?_ _) | (with_reducible refine Below.drew ?_) | (with_reducible refine below_drewN ?_ _) | (with_reducible refine Below.setCell ?_ ?_ _) | (with_reducible refine below_step ?_ (by with_reducible assumption) ?_) | (with_reducible exact Nat.le_refl _) | omega | (simp; omega) | (simp; done)))
      go_wp2_with fail
      refine (l_usable B day _ _ _ _ _ _ _ (K0.out.below (by (repeat' (first | (with_reducible exact Below.refl _ _) | (with_reducible assumption) | (with_reducible exact Bw.out (by with_reducible assumption)) | (with_reducible refine bw_alloc ?_ _) | (with_reducible refine bw_step ?_ (by with_reducible assumption)) | (with_reducible refine Below.alloc ?_ ?_ _) | (with_reducible refine Below.drew ?_) | (with_reducible refine below_drewN ?_ _) | (with_reducible refine Below.setCell ?_ ?_ _) | (with_reducible refine below_step ?_ (by with_reducible assumption) ?_) | (with_reducible exact Nat.le_refl _) | omega | (simp; omega) | (simp; done))))) true HU.out).mono ?_
      rintro e w2 ⟨rfl, hb2⟩
      have R_b_2 : Row w2 (w.heap.size) [.int .i64 B.id, .int .i64 B.kind, .int .i64 B.rooms, .int .i64 B.fr, .int .i64 B.un, .slice ca cn cc, .int .i64 B.pn, .int .i64 B.pd, .int .i64 B.fee, .slice (some ⟨bb, off, none⟩) pm pc] := by (repeat' (first | (with_reducible assumption) | (with_reducible refine Row.new' _ _ _ (by first | rfl | (simp; done) | omega)) | (with_reducible refine Row.alloc ?_ _) | (with_reducible refine Row.drew ?_) | (with_reducible refine Row.drewN ?_ _) | (with_reducible refine Row.step ?_ (by with_reducible assumption)) | (with_reducible refine Row.set2' ?_ _ _; first | exact ⟨_, _, by with_reducible assumption⟩ | exact ⟨_, _, Row.alloc (by with_reducible assumption) _⟩ | exact ⟨_, _, Row.alloc (Row.alloc (by with_reducible assumption) _) _⟩) | (with_reducible refine Row.other ?_ (by first | omega | (simp; done) | (simp; omega)) _)))
      have c_b_0_2 := R_b_2.cell 0 rfl
      have c_b_1_2 := R_b_2.cell 1 rfl
      have c_b_2_2 := R_b_2.cell 2 rfl
      have c_b_3_2 := R_b_2.cell 3 rfl
      have c_b_4_2 := R_b_2.cell 4 rfl
      have c_b_5_2 := R_b_2.cell 5 rfl
      have c_b_6_2 := R_b_2.cell 6 rfl
      have c_b_7_2 := R_b_2.cell 7 rfl
      have c_b_8_2 := R_b_2.cell 8 rfl
      have c_b_9_2 := R_b_2.cell 9 rfl
      have l_b_2 := R_b_2.lt
      have HB2 : Below w.heap.size w w2 := by (repeat' (first | (with_reducible exact Below.refl _ _) | (with_reducible assumption) | (with_reducible exact Bw.out (by with_reducible assumption)) | (with_reducible refine bw_alloc ?_ _) | (with_reducible refine bw_step ?_ (by with_reducible assumption)) | (with_reducible refine Below.alloc ?_ ?_ _) | (with_reducible refine Below.drew ?_) | (with_reducible refine below_drewN ?_ _) | (with_reducible refine Below.setCell ?_ ?_ _) | (with_reducible refine below_step ?_ (by with_reducible assumption) ?_) | (with_reducible exact Nat.le_refl _) | omega | (simp; omega) | (simp; done)))
      clear R_b_1 c_b_0_1 c_b_1_1 c_b_2_1 c_b_3_1 c_b_4_1 c_b_5_1 c_b_6_1 c_b_7_1 c_b_8_1 c_b_9_1 hb1 HB1
      go_wp2_with fail
      go_ret
      refine ⟨(by first | rfl | exact ret_bool (by first | rfl | (simp; done) | (simp; omega))), ?_⟩
      (repeat' (first | (with_reducible exact Below.refl _ _) | (with_reducible assumption) | (with_reducible exact Bw.out (by with_reducible assumption)) | (with_reducible refine bw_alloc ?_ _) | (with_reducible refine bw_step ?_ (by with_reducible assumption)) | (with_reducible refine Below.alloc ?_ ?_ _) | (with_reducible refine Below.drew ?_) | (with_reducible refine below_drewN ?_ _) | (with_reducible refine Below.setCell ?_ ?_ _) | (with_reducible refine below_step ?_ (by with_reducible assumption) ?_) | (with_reducible exact Nat.le_refl _) | omega | (simp; omega) | (simp; done)))
    have hci : (cn : Int) < 20 := by omega
    have hjn := Int.emod_nonneg q (show B.un - B.fr ≠ 0 by omega)
    have hjl := Int.emod_lt_of_pos q (show 0 < B.un - B.fr by omega)
    obtain ⟨j, hj⟩ := Int.eq_ofNat_of_zero_le hjn
    have hjp : j < pm := by have := ok.len; rw [hpl] at this; omega
    obtain ⟨T, hT⟩ : ∃ T, min 366 (day + l) = T := ⟨_, rfl⟩
    have hTd : inR T 0 366 = true := by rw [inR_iff]; omega
    have hdT : day ≤ T := by omega
    have hrc : (day + l < 366 ∧ T = day + l) ∨ (366 ≤ day + l ∧ T = 366) := by omega
    obtain ⟨z, hz⟩ : ∃ z, B.picked.getD j 0 = z := ⟨_, rfl⟩
    have hz0 : 0 ≤ z := (ok.picks z (by rw [← hz]; exact getD_mem 0 (by rw [hpl]; exact hjp))).1
    obtain ⟨ex, vx⟩ := held_okC hv hTd (n := B.fr + j) rfl (by rw [hpl]; exact hjp)
    obtain ⟨X, hX⟩ : ∃ X, heV B T (B.fr + j) = X := ⟨_, rfl⟩
    have HNEW : Hid ((∀ i, i + 1 = B.cuts.length → (B.cuts.getD i cut0).1 < day) → (heV (cutW B (B.cuts ++ [(day, 1, 1)])) T (B.fr + j) = X ∧ heE (cutW B (B.cuts ++ [(day, 1, 1)])) T (B.fr + j) = 0) ∧ (heV (cutW B (B.cuts ++ [(day, 0, 1)])) T (B.fr + j) = z ∧ heE (cutW B (B.cuts ++ [(day, 0, 1)])) T (B.fr + j) = 0)) := fun hlast => by
      have hf : B.cuts.length < 20 := by rw [HLC.out]; omega
      obtain ⟨e1, v1⟩ := held_okC (B := cutW B (B.cuts ++ [(day, 1, 1)])) (cutW_ok hv hd (by decide) hf hlast) hTd (n := B.fr + j) rfl (by show j < B.picked.length; rw [hpl]; exact hjp)
      obtain ⟨e2, v2⟩ := held_okC (B := cutW B (B.cuts ++ [(day, 0, 1)])) (cutW_ok hv hd (by decide) hf hlast) hTd (n := B.fr + j) rfl (by show j < B.picked.length; rw [hpl]; exact hjp)
      refine ⟨⟨?_, e1⟩, ?_, e2⟩
      · rw [v1, limI_all B hdT, ← hX, vx]; rfl
      · rw [v2, limI_none B hdT]
        show max 0 (B.picked.getD j 0) = z
        rw [hz]; omega
    have HVX := Lib.hid hX
    have HEX := Lib.hid ex
    have HZ := Lib.hid hz
    have i1 : (0 : Int) ≤ (j : Int) := by omega
    have i2 : (j : Int) < (pm : Int) := by omega
    have e1 : B.fr + (j : Int) - B.fr = (j : Int) := by omega
    have HE2 := Lib.hid (IntWalk.i64_in (j : Int) (by omega))
    clear hv ok vx hz hX ex hd hTd hT hpl hjn hjl hc
    rcases Nat.eq_zero_or_pos cn with hc0 | hc0
    · obtain ⟨⟨hva, hea⟩, hvn, hen⟩ := HNEW.out (fun i hi => by rw [HLC.out] at hi; omega)
      have HVA := Lib.hid hva
      have HEA := Lib.hid hea
      have HVN := Lib.hid hvn
      have HEN := Lib.hid hen
      have hcz : (cn : Int) ≤ 0 := by omega
      clear hva hea hvn hen HNEW hc0 K
      go_enter Try.func5, Try.ntmps5
      go_wp2_with fail
      refine (head_any _).mono ?_
      rintro e w1 ⟨rfl, hb1⟩
      have R_b_1 : Row w1 (w.heap.size) [.int .i64 B.id, .int .i64 B.kind, .int .i64 B.rooms, .int .i64 B.fr, .int .i64 B.un, .slice ca cn cc, .int .i64 B.pn, .int .i64 B.pd, .int .i64 B.fee, .slice (some ⟨bb, off, none⟩) pm pc] := by (repeat' (first | (with_reducible assumption) | (with_reducible refine Row.new' _ _ _ (by first | rfl | (simp; done) | omega)) | (with_reducible refine Row.alloc ?_ _) | (with_reducible refine Row.drew ?_) | (with_reducible refine Row.drewN ?_ _) | (with_reducible refine Row.step ?_ (by with_reducible assumption)) | (with_reducible refine Row.set2' ?_ _ _; first | exact ⟨_, _, by with_reducible assumption⟩ | exact ⟨_, _, Row.alloc (by with_reducible assumption) _⟩ | exact ⟨_, _, Row.alloc (Row.alloc (by with_reducible assumption) _) _⟩) | (with_reducible refine Row.other ?_ (by first | omega | (simp; done) | (simp; omega)) _)))
      have c_b_0_1 := R_b_1.cell 0 rfl
      have c_b_1_1 := R_b_1.cell 1 rfl
      have c_b_2_1 := R_b_1.cell 2 rfl
      have c_b_3_1 := R_b_1.cell 3 rfl
      have c_b_4_1 := R_b_1.cell 4 rfl
      have c_b_5_1 := R_b_1.cell 5 rfl
      have c_b_6_1 := R_b_1.cell 6 rfl
      have c_b_7_1 := R_b_1.cell 7 rfl
      have c_b_8_1 := R_b_1.cell 8 rfl
      have c_b_9_1 := R_b_1.cell 9 rfl
      have l_b_1 := R_b_1.lt
      have HB1 : Below w.heap.size w w1 := by (repeat' (first | (with_reducible exact Below.refl _ _) | (with_reducible assumption) | (with_reducible exact Bw.out (by with_reducible assumption)) | (with_reducible refine bw_alloc ?_ _) | (with_reducible refine bw_step ?_ (by with_reducible assumption)) | (with_reducible refine Below.alloc ?_ ?_ _) | (with_reducible refine Below.drew ?_) | (with_reducible refine below_drewN ?_ _) | (with_reducible refine Below.setCell ?_ ?_ _) | (with_reducible refine below_step ?_ (by with_reducible assumption) ?_) | (with_reducible exact Nat.le_refl _) | omega | (simp; omega) | (simp; done)))
      go_wp2_with fail
      refine (l_usable B day _ _ _ _ _ _ _ (K0.out.below (by (repeat' (first | (with_reducible exact Below.refl _ _) | (with_reducible assumption) | (with_reducible exact Bw.out (by with_reducible assumption)) | (with_reducible refine bw_alloc ?_ _) | (with_reducible refine bw_step ?_ (by with_reducible assumption)) | (with_reducible refine Below.alloc ?_ ?_ _) | (with_reducible refine Below.drew ?_) | (with_reducible refine below_drewN ?_ _) | (with_reducible refine Below.setCell ?_ ?_ _) | (with_reducible refine below_step ?_ (by with_reducible assumption) ?_) | (with_reducible exact Nat.le_refl _) | omega | (simp; omega) | (simp; done))))) true HU.out).mono ?_
      rintro e w2 ⟨rfl, hb2⟩
      have R_b_2 : Row w2 (w.heap.size) [.int .i64 B.id, .int .i64 B.kind, .int .i64 B.rooms, .int .i64 B.fr, .int .i64 B.un, .slice ca cn cc, .int .i64 B.pn, .int .i64 B.pd, .int .i64 B.fee, .slice (some ⟨bb, off, none⟩) pm pc] := by (repeat' (first | (with_reducible assumption) | (with_reducible refine Row.new' _ _ _ (by first | rfl | (simp; done) | omega)) | (with_reducible refine Row.alloc ?_ _) | (with_reducible refine Row.drew ?_) | (with_reducible refine Row.drewN ?_ _) | (with_reducible refine Row.step ?_ (by with_reducible assumption)) | (with_reducible refine Row.set2' ?_ _ _; first | exact ⟨_, _, by with_reducible assumption⟩ | exact ⟨_, _, Row.alloc (by with_reducible assumption) _⟩ | exact ⟨_, _, Row.alloc (Row.alloc (by with_reducible assumption) _) _⟩) | (with_reducible refine Row.other ?_ (by first | omega | (simp; done) | (simp; omega)) _)))
      have c_b_0_2 := R_b_2.cell 0 rfl
      have c_b_1_2 := R_b_2.cell 1 rfl
      have c_b_2_2 := R_b_2.cell 2 rfl
      have c_b_3_2 := R_b_2.cell 3 rfl
      have c_b_4_2 := R_b_2.cell 4 rfl
      have c_b_5_2 := R_b_2.cell 5 rfl
      have c_b_6_2 := R_b_2.cell 6 rfl
      have c_b_7_2 := R_b_2.cell 7 rfl
      have c_b_8_2 := R_b_2.cell 8 rfl
      have c_b_9_2 := R_b_2.cell 9 rfl
      have l_b_2 := R_b_2.lt
      have HB2 : Below w.heap.size w w2 := by (repeat' (first | (with_reducible exact Below.refl _ _) | (with_reducible assumption) | (with_reducible exact Bw.out (by with_reducible assumption)) | (with_reducible refine bw_alloc ?_ _) | (with_reducible refine bw_step ?_ (by with_reducible assumption)) | (with_reducible refine Below.alloc ?_ ?_ _) | (with_reducible refine Below.drew ?_) | (with_reducible refine below_drewN ?_ _) | (with_reducible refine Below.setCell ?_ ?_ _) | (with_reducible refine below_step ?_ (by with_reducible assumption) ?_) | (with_reducible exact Nat.le_refl _) | omega | (simp; omega) | (simp; done)))
      clear R_b_1 c_b_0_1 c_b_1_1 c_b_2_1 c_b_3_1 c_b_4_1 c_b_5_1 c_b_6_1 c_b_7_1 c_b_8_1 c_b_9_1 hb1 HB1
      skip
      skip
      go_upto_region 4 with fail
      skip
      go_cut [10, 11] (fun s0 s1 wx => s0 = .int .i64 (B.fr + j) ∧ s1 = .int .i64 T ∧ Bw w2.heap.size w2 wx)
      case first =>
        rcases hrc with ⟨hle, hTe⟩ | ⟨hle, hTe⟩
        · subst hTe
          go_wp2_with fail
          refine (l_night B q j _ _ _ _ _ _ _ o1 o2 o3 hq hj).mono ?_
          rintro e w3 ⟨rfl, hb3⟩
          have R_b_3 : Row w3 (w.heap.size) [.int .i64 B.id, .int .i64 B.kind, .int .i64 B.rooms, .int .i64 B.fr, .int .i64 B.un, .slice ca cn cc, .int .i64 B.pn, .int .i64 B.pd, .int .i64 B.fee, .slice (some ⟨bb, off, none⟩) pm pc] := by (repeat' (first | (with_reducible assumption) | (with_reducible refine Row.new' _ _ _ (by first | rfl | (simp; done) | omega)) | (with_reducible refine Row.alloc ?_ _) | (with_reducible refine Row.drew ?_) | (with_reducible refine Row.drewN ?_ _) | (with_reducible refine Row.step ?_ (by with_reducible assumption)) | (with_reducible refine Row.set2' ?_ _ _; first | exact ⟨_, _, by with_reducible assumption⟩ | exact ⟨_, _, Row.alloc (by with_reducible assumption) _⟩ | exact ⟨_, _, Row.alloc (Row.alloc (by with_reducible assumption) _) _⟩) | (with_reducible refine Row.other ?_ (by first | omega | (simp; done) | (simp; omega)) _)))
          have c_b_0_3 := R_b_3.cell 0 rfl
          have c_b_1_3 := R_b_3.cell 1 rfl
          have c_b_2_3 := R_b_3.cell 2 rfl
          have c_b_3_3 := R_b_3.cell 3 rfl
          have c_b_4_3 := R_b_3.cell 4 rfl
          have c_b_5_3 := R_b_3.cell 5 rfl
          have c_b_6_3 := R_b_3.cell 6 rfl
          have c_b_7_3 := R_b_3.cell 7 rfl
          have c_b_8_3 := R_b_3.cell 8 rfl
          have c_b_9_3 := R_b_3.cell 9 rfl
          have l_b_3 := R_b_3.lt
          have HB3 : Below w.heap.size w w3 := by (repeat' (first | (with_reducible exact Below.refl _ _) | (with_reducible assumption) | (with_reducible exact Bw.out (by with_reducible assumption)) | (with_reducible refine bw_alloc ?_ _) | (with_reducible refine bw_step ?_ (by with_reducible assumption)) | (with_reducible refine Below.alloc ?_ ?_ _) | (with_reducible refine Below.drew ?_) | (with_reducible refine below_drewN ?_ _) | (with_reducible refine Below.setCell ?_ ?_ _) | (with_reducible refine below_step ?_ (by with_reducible assumption) ?_) | (with_reducible exact Nat.le_refl _) | omega | (simp; omega) | (simp; done)))
          clear R_b_2 c_b_0_2 c_b_1_2 c_b_2_2 c_b_3_2 c_b_4_2 c_b_5_2 c_b_6_2 c_b_7_2 c_b_8_2 c_b_9_2 hb2 HB2
          go_wp2_with fail
          go_meet
          exact ⟨rfl, rfl, by show Below _ _ _; (repeat' (first | (with_reducible exact Below.refl _ _) | (with_reducible assumption) | (with_reducible exact Bw.out (by with_reducible assumption)) | (with_reducible refine bw_alloc ?_ _) | (with_reducible refine bw_step ?_ (by with_reducible assumption)) | (with_reducible refine Below.alloc ?_ ?_ _) | (with_reducible refine Below.drew ?_) | (with_reducible refine below_drewN ?_ _) | (with_reducible refine Below.setCell ?_ ?_ _) | (with_reducible refine below_step ?_ (by with_reducible assumption) ?_) | (with_reducible exact Nat.le_refl _) | omega | (simp; omega) | (simp; done)))⟩
        · subst hTe
          go_wp2_with fail
          refine (l_night B q j _ _ _ _ _ _ _ o1 o2 o3 hq hj).mono ?_
          rintro e w3 ⟨rfl, hb3⟩
          have R_b_3 : Row w3 (w.heap.size) [.int .i64 B.id, .int .i64 B.kind, .int .i64 B.rooms, .int .i64 B.fr, .int .i64 B.un, .slice ca cn cc, .int .i64 B.pn, .int .i64 B.pd, .int .i64 B.fee, .slice (some ⟨bb, off, none⟩) pm pc] := by (repeat' (first | (with_reducible assumption) | (with_reducible refine Row.new' _ _ _ (by first | rfl | (simp; done) | omega)) | (with_reducible refine Row.alloc ?_ _) | (with_reducible refine Row.drew ?_) | (with_reducible refine Row.drewN ?_ _) | (with_reducible refine Row.step ?_ (by with_reducible assumption)) | (with_reducible refine Row.set2' ?_ _ _; first | exact ⟨_, _, by with_reducible assumption⟩ | exact ⟨_, _, Row.alloc (by with_reducible assumption) _⟩ | exact ⟨_, _, Row.alloc (Row.alloc (by with_reducible assumption) _) _⟩) | (with_reducible refine Row.other ?_ (by first | omega | (simp; done) | (simp; omega)) _)))
          have c_b_0_3 := R_b_3.cell 0 rfl
          have c_b_1_3 := R_b_3.cell 1 rfl
          have c_b_2_3 := R_b_3.cell 2 rfl
          have c_b_3_3 := R_b_3.cell 3 rfl
          have c_b_4_3 := R_b_3.cell 4 rfl
          have c_b_5_3 := R_b_3.cell 5 rfl
          have c_b_6_3 := R_b_3.cell 6 rfl
          have c_b_7_3 := R_b_3.cell 7 rfl
          have c_b_8_3 := R_b_3.cell 8 rfl
          have c_b_9_3 := R_b_3.cell 9 rfl
          have l_b_3 := R_b_3.lt
          have HB3 : Below w.heap.size w w3 := by (repeat' (first | (with_reducible exact Below.refl _ _) | (with_reducible assumption) | (with_reducible exact Bw.out (by with_reducible assumption)) | (with_reducible refine bw_alloc ?_ _) | (with_reducible refine bw_step ?_ (by with_reducible assumption)) | (with_reducible refine Below.alloc ?_ ?_ _) | (with_reducible refine Below.drew ?_) | (with_reducible refine below_drewN ?_ _) | (with_reducible refine Below.setCell ?_ ?_ _) | (with_reducible refine below_step ?_ (by with_reducible assumption) ?_) | (with_reducible exact Nat.le_refl _) | omega | (simp; omega) | (simp; done)))
          clear R_b_2 c_b_0_2 c_b_1_2 c_b_2_2 c_b_3_2 c_b_4_2 c_b_5_2 c_b_6_2 c_b_7_2 c_b_8_2 c_b_9_2 hb2 HB2
          go_wp2_with fail
          go_meet
          exact ⟨rfl, rfl, by show Below _ _ _; (repeat' (first | (with_reducible exact Below.refl _ _) | (with_reducible assumption) | (with_reducible exact Bw.out (by with_reducible assumption)) | (with_reducible refine bw_alloc ?_ _) | (with_reducible refine bw_step ?_ (by with_reducible assumption)) | (with_reducible refine Below.alloc ?_ ?_ _) | (with_reducible refine Below.drew ?_) | (with_reducible refine below_drewN ?_ _) | (with_reducible refine Below.setCell ?_ ?_ _) | (with_reducible refine below_step ?_ (by with_reducible assumption) ?_) | (with_reducible exact Nat.le_refl _) | omega | (simp; omega) | (simp; done)))⟩
      case' rest =>
        obtain ⟨rfl, rfl, hb3⟩ := hcut
        obtain ⟨w3, hw3⟩ : ∃ wd, wd = wc := ⟨_, rfl⟩
        subst hw3
        replace hb3 := hb3.out
        have R_b_3 : Row w3 (w.heap.size) [.int .i64 B.id, .int .i64 B.kind, .int .i64 B.rooms, .int .i64 B.fr, .int .i64 B.un, .slice ca cn cc, .int .i64 B.pn, .int .i64 B.pd, .int .i64 B.fee, .slice (some ⟨bb, off, none⟩) pm pc] := by (repeat' (first | (with_reducible assumption) | (with_reducible refine Row.new' _ _ _ (by first | rfl | (simp; done) | omega)) | (with_reducible refine Row.alloc ?_ _) | (with_reducible refine Row.drew ?_) | (with_reducible refine Row.drewN ?_ _) | (with_reducible refine Row.step ?_ (by with_reducible assumption)) | (with_reducible refine Row.set2' ?_ _ _; first | exact ⟨_, _, by with_reducible assumption⟩ | exact ⟨_, _, Row.alloc (by with_reducible assumption) _⟩ | exact ⟨_, _, Row.alloc (Row.alloc (by with_reducible assumption) _) _⟩) | (with_reducible refine Row.other ?_ (by first | omega | (simp; done) | (simp; omega)) _)))
        have c_b_0_3 := R_b_3.cell 0 rfl
        have c_b_1_3 := R_b_3.cell 1 rfl
        have c_b_2_3 := R_b_3.cell 2 rfl
        have c_b_3_3 := R_b_3.cell 3 rfl
        have c_b_4_3 := R_b_3.cell 4 rfl
        have c_b_5_3 := R_b_3.cell 5 rfl
        have c_b_6_3 := R_b_3.cell 6 rfl
        have c_b_7_3 := R_b_3.cell 7 rfl
        have c_b_8_3 := R_b_3.cell 8 rfl
        have c_b_9_3 := R_b_3.cell 9 rfl
        have l_b_3 := R_b_3.lt
        have HB3 : Below w.heap.size w w3 := by (repeat' (first | (with_reducible exact Below.refl _ _) | (with_reducible assumption) | (with_reducible exact Bw.out (by with_reducible assumption)) | (with_reducible refine bw_alloc ?_ _) | (with_reducible refine bw_step ?_ (by with_reducible assumption)) | (with_reducible refine Below.alloc ?_ ?_ _) | (with_reducible refine Below.drew ?_) | (with_reducible refine below_drewN ?_ _) | (with_reducible refine Below.setCell ?_ ?_ _) | (with_reducible refine below_step ?_ (by with_reducible assumption) ?_) | (with_reducible exact Nat.le_refl _) | omega | (simp; omega) | (simp; done)))
        clear R_b_2 c_b_0_2 c_b_1_2 c_b_2_2 c_b_3_2 c_b_4_2 c_b_5_2 c_b_6_2 c_b_7_2 c_b_8_2 c_b_9_2 hb2 HB2
        clear hrc
        go_wp2_with fail
        have HKS : Hid (∀ w', Below w3.heap.size w3 w' → w'.cell? ⟨w.heap.size, 0, none⟩ = some (.int .i64 B.id) ∧ w'.cell? ⟨w.heap.size, 1, none⟩ = some (.int .i64 B.kind) ∧ w'.cell? ⟨w.heap.size, 2, none⟩ = some (.int .i64 B.rooms) ∧ w'.cell? ⟨w.heap.size, 3, none⟩ = some (.int .i64 B.fr) ∧ w'.cell? ⟨w.heap.size, 4, none⟩ = some (.int .i64 B.un) ∧ w'.cell? ⟨w.heap.size, 5, none⟩ = some (.slice ca cn cc) ∧ w'.cell? ⟨w.heap.size, 6, none⟩ = some (.int .i64 B.pn) ∧ w'.cell? ⟨w.heap.size, 7, none⟩ = some (.int .i64 B.pd) ∧ w'.cell? ⟨w.heap.size, 8, none⟩ = some (.int .i64 B.fee) ∧ w'.cell? ⟨w.heap.size, 9, none⟩ = some (.slice (some ⟨bb, off, none⟩) pm pc)) := fun w' h => ⟨(R_b_3.step h).cell 0 rfl, (R_b_3.step h).cell 1 rfl, (R_b_3.step h).cell 2 rfl, (R_b_3.step h).cell 3 rfl, (R_b_3.step h).cell 4 rfl, (R_b_3.step h).cell 5 rfl, (R_b_3.step h).cell 6 rfl, (R_b_3.step h).cell 7 rfl, (R_b_3.step h).cell 8 rfl, (R_b_3.step h).cell 9 rfl⟩
        go_cut [12, 13] (fun s0 s1 wx => ∃ gx gy : Nat, s0 = .pointer (some ⟨gx, 0, none⟩) ∧ s1 = .pointer (some ⟨gy, 0, none⟩) ∧ gx ≠ gy ∧ w3.heap.size ≤ gx ∧ w3.heap.size ≤ gy ∧ Row wx gx [.int .i64 B.id, .int .i64 B.kind, .int .i64 B.rooms, .int .i64 B.fr, .int .i64 B.un, .slice ca cn cc, .int .i64 B.pn, .int .i64 B.pd, .int .i64 B.fee, .slice (some ⟨bb, off, none⟩) pm pc] ∧ Row wx gy [.int .i64 B.id, .int .i64 B.kind, .int .i64 B.rooms, .int .i64 B.fr, .int .i64 B.un, .slice ca cn cc, .int .i64 B.pn, .int .i64 B.pd, .int .i64 B.fee, .slice (some ⟨bb, off, none⟩) pm pc] ∧ Bw w3.heap.size w3 wx)
        case first =>
          refine AnyJ.beginP (fun w' : World => w'.cell? ⟨w.heap.size, 0, none⟩ = some (.int .i64 B.id) ∧ w'.cell? ⟨w.heap.size, 1, none⟩ = some (.int .i64 B.kind) ∧ w'.cell? ⟨w.heap.size, 2, none⟩ = some (.int .i64 B.rooms) ∧ w'.cell? ⟨w.heap.size, 3, none⟩ = some (.int .i64 B.fr) ∧ w'.cell? ⟨w.heap.size, 4, none⟩ = some (.int .i64 B.un) ∧ w'.cell? ⟨w.heap.size, 5, none⟩ = some (.slice ca cn cc) ∧ w'.cell? ⟨w.heap.size, 6, none⟩ = some (.int .i64 B.pn) ∧ w'.cell? ⟨w.heap.size, 7, none⟩ = some (.int .i64 B.pd) ∧ w'.cell? ⟨w.heap.size, 8, none⟩ = some (.int .i64 B.fee) ∧ w'.cell? ⟨w.heap.size, 9, none⟩ = some (.slice (some ⟨bb, off, none⟩) pm pc)) (fun _ => true) (by kernel_rfl) (HKS.out _ (by (repeat' (first | (with_reducible exact Below.refl _ _) | (with_reducible assumption) | (with_reducible exact Bw.out (by with_reducible assumption)) | (with_reducible refine bw_alloc ?_ _) | (with_reducible refine bw_step ?_ (by with_reducible assumption)) | (with_reducible refine Below.alloc ?_ ?_ _) | (with_reducible refine Below.drew ?_) | (with_reducible refine below_drewN ?_ _) | (with_reducible refine Below.setCell ?_ ?_ _) | (with_reducible refine below_step ?_ (by with_reducible assumption) ?_) | (with_reducible exact Nat.le_refl _) | omega | (simp; omega) | (simp; done))))) (fun hS => ?_)
          refine AnyJ.takeD (i := 0) (d := some 59) (v := ?_) rfl (by kernel_rfl) (by kernel_rfl) (by kernel_rfl) (by kernel_rfl) (by kernel_rfl) (fun _ _ _ h => h) (Or.inl ⟨by kernel_rfl, ?_⟩) hS ?_
          rotate_left
          · intro w' hS
            obtain ⟨sF0, sF1, sF2, sF3, sF4, sF5, sF6, sF7, sF8, sF9⟩ := hS
            go_simp
            try with_reducible rfl
          refine AnyJ.takeD (i := 1) (d := some 60) (v := ?_) rfl (by kernel_rfl) (by kernel_rfl) (by kernel_rfl) (by kernel_rfl) (by kernel_rfl) (fun _ _ _ h => h) (Or.inl ⟨by kernel_rfl, ?_⟩) hS ?_
          rotate_left
          · intro w' hS
            obtain ⟨sF0, sF1, sF2, sF3, sF4, sF5, sF6, sF7, sF8, sF9⟩ := hS
            go_simp
            try with_reducible rfl
          refine AnyJ.two (i := 2) (j := 3) (by kernel_rfl) rfl rfl (fun Kz hKz => ?_) (fun Kz hKz => ?_)
          · go_simp
            refine hKz _ _ (fun _ => HKS.out _ (by (repeat' (first | (with_reducible exact Below.refl _ _) | (with_reducible assumption) | (with_reducible exact Bw.out (by with_reducible assumption)) | (with_reducible refine bw_alloc ?_ _) | (with_reducible refine bw_step ?_ (by with_reducible assumption)) | (with_reducible refine Below.alloc ?_ ?_ _) | (with_reducible refine Below.drew ?_) | (with_reducible refine below_drewN ?_ _) | (with_reducible refine Below.setCell ?_ ?_ _) | (with_reducible refine below_step ?_ (by with_reducible assumption) ?_) | (with_reducible exact Nat.le_refl _) | omega | (simp; omega) | (simp; done))))) ?_
            clear hKz Kz
            refine AnyJ.one (i := 3) (by kernel_rfl) rfl (fun Kz hKz => ?_)
            go_simp
            refine hKz _ _ (fun _ => HKS.out _ (by (repeat' (first | (with_reducible exact Below.refl _ _) | (with_reducible assumption) | (with_reducible exact Bw.out (by with_reducible assumption)) | (with_reducible refine bw_alloc ?_ _) | (with_reducible refine bw_step ?_ (by with_reducible assumption)) | (with_reducible refine Below.alloc ?_ ?_ _) | (with_reducible refine Below.drew ?_) | (with_reducible refine below_drewN ?_ _) | (with_reducible refine Below.setCell ?_ ?_ _) | (with_reducible refine below_step ?_ (by with_reducible assumption) ?_) | (with_reducible exact Nat.le_refl _) | omega | (simp; omega) | (simp; done))))) ?_
            clear hKz Kz
            generalize hwA : ((w3.alloc _).alloc _).drew = wA
            have RA : Row wA w3.heap.size [.int .i64 0, .int .i64 0, .int .i64 0, .int .i64 0, .int .i64 0, .slice none 0 0, .int .i64 0, .int .i64 0, .int .i64 0, .slice none 0 0] := by rw [← hwA]; exact (Row.new' w3 [.int .i64 0, .int .i64 0, .int .i64 0, .int .i64 0, .int .i64 0, .slice none 0 0, .int .i64 0, .int .i64 0, .int .i64 0, .slice none 0 0] 29 rfl).alloc _
            have RB : Row wA (w3.heap.size + 1) [.int .i64 0, .int .i64 0, .int .i64 0, .int .i64 0, .int .i64 0, .slice none 0 0, .int .i64 0, .int .i64 0, .int .i64 0, .slice none 0 0] := by rw [← hwA]; exact Row.new' _ [.int .i64 0, .int .i64 0, .int .i64 0, .int .i64 0, .int .i64 0, .slice none 0 0, .int .i64 0, .int .i64 0, .int .i64 0, .slice none 0 0] 29 (by simp)
            have HBA : Below w3.heap.size w3 wA := by rw [← hwA]; (repeat' (first | (with_reducible exact Below.refl _ _) | (with_reducible assumption) | (with_reducible exact Bw.out (by with_reducible assumption)) | (with_reducible refine bw_alloc ?_ _) | (with_reducible refine bw_step ?_ (by with_reducible assumption)) | (with_reducible refine Below.alloc ?_ ?_ _) | (with_reducible refine Below.drew ?_) | (with_reducible refine below_drewN ?_ _) | (with_reducible refine Below.setCell ?_ ?_ _) | (with_reducible refine below_step ?_ (by with_reducible assumption) ?_) | (with_reducible exact Nat.le_refl _) | omega | (simp; omega) | (simp; done)))
            clear hwA
            have rac0 := RA.cell 0 rfl
            have raz0 := RA.frozen 0
            have rac1 := RA.cell 1 rfl
            have raz1 := RA.frozen 1
            have rac2 := RA.cell 2 rfl
            have raz2 := RA.frozen 2
            have rac3 := RA.cell 3 rfl
            have raz3 := RA.frozen 3
            have rac4 := RA.cell 4 rfl
            have raz4 := RA.frozen 4
            have rac5 := RA.cell 5 rfl
            have raz5 := RA.frozen 5
            have rac6 := RA.cell 6 rfl
            have raz6 := RA.frozen 6
            have rac7 := RA.cell 7 rfl
            have raz7 := RA.frozen 7
            have rac8 := RA.cell 8 rfl
            have raz8 := RA.frozen 8
            have rac9 := RA.cell 9 rfl
            have raz9 := RA.frozen 9
            have ral := RA.lt
            have rbc0 := RB.cell 0 rfl
            have rbz0 := RB.frozen 0
            have rbc1 := RB.cell 1 rfl
            have rbz1 := RB.frozen 1
            have rbc2 := RB.cell 2 rfl
            have rbz2 := RB.frozen 2
            have rbc3 := RB.cell 3 rfl
            have rbz3 := RB.frozen 3
            have rbc4 := RB.cell 4 rfl
            have rbz4 := RB.frozen 4
            have rbc5 := RB.cell 5 rfl
            have rbz5 := RB.frozen 5
            have rbc6 := RB.cell 6 rfl
            have rbz6 := RB.frozen 6
            have rbc7 := RB.cell 7 rfl
            have rbz7 := RB.frozen 7
            have rbc8 := RB.cell 8 rfl
            have rbz8 := RB.frozen 8
            have rbc9 := RB.cell 9 rfl
            have rbz9 := RB.frozen 9
            have rbl := RB.lt
            refine AnyJ.one (i := 4) (by kernel_rfl) rfl (fun Kz hKz => ?_)
            go_simp
            obtain ⟨wB, hwB, R1, ho1, hb1⟩ := RA.put10 (.int .i64 B.id) (.int .i64 B.kind) (.int .i64 B.rooms) (.int .i64 B.fr) (.int .i64 B.un) (.slice ca cn cc) (.int .i64 B.pn) (.int .i64 B.pd) (.int .i64 B.fee) (.slice (some ⟨bb, off, none⟩) pm pc)
            rw [hwB]
            have R2 := RB.of_block (ho1 _ (by simp))
            have HBB := hb1 _ _ (by simp) HBA
            refine hKz _ _ (fun _ => HKS.out _ HBB) ?_
            clear hKz Kz hwB rac0 raz0 rac1 raz1 rac2 raz2 rac3 raz3 rac4 raz4 rac5 raz5 rac6 raz6 rac7 raz7 rac8 raz8 rac9 raz9 rbc0 rbz0 rbc1 rbz1 rbc2 rbz2 rbc3 rbz3 rbc4 rbz4 rbc5 rbz5 rbc6 rbz6 rbc7 rbz7 rbc8 rbz8 rbc9 rbz9 ral rbl RA RB ho1 hb1 HBA
            have rbc0 := R2.cell 0 rfl
            have rbz0 := R2.frozen 0
            have rbc1 := R2.cell 1 rfl
            have rbz1 := R2.frozen 1
            have rbc2 := R2.cell 2 rfl
            have rbz2 := R2.frozen 2
            have rbc3 := R2.cell 3 rfl
            have rbz3 := R2.frozen 3
            have rbc4 := R2.cell 4 rfl
            have rbz4 := R2.frozen 4
            have rbc5 := R2.cell 5 rfl
            have rbz5 := R2.frozen 5
            have rbc6 := R2.cell 6 rfl
            have rbz6 := R2.frozen 6
            have rbc7 := R2.cell 7 rfl
            have rbz7 := R2.frozen 7
            have rbc8 := R2.cell 8 rfl
            have rbz8 := R2.frozen 8
            have rbc9 := R2.cell 9 rfl
            have rbz9 := R2.frozen 9
            have rbl := R2.lt
            refine AnyJ.one (i := 5) (by kernel_rfl) rfl (fun Kz hKz => ?_)
            go_simp
            obtain ⟨wC, hwC, R2', ho2, hb2⟩ := R2.put10 (.int .i64 B.id) (.int .i64 B.kind) (.int .i64 B.rooms) (.int .i64 B.fr) (.int .i64 B.un) (.slice ca cn cc) (.int .i64 B.pn) (.int .i64 B.pd) (.int .i64 B.fee) (.slice (some ⟨bb, off, none⟩) pm pc)
            rw [hwC]
            have R1' := R1.of_block (ho2 _ (by simp))
            have HBC := hb2 _ _ (by simp) HBB
            refine hKz _ _ (fun _ => HKS.out _ HBC) ?_
            clear hKz Kz hwC rbc0 rbz0 rbc1 rbz1 rbc2 rbz2 rbc3 rbz3 rbc4 rbz4 rbc5 rbz5 rbc6 rbz6 rbc7 rbz7 rbc8 rbz8 rbc9 rbz9 rbl R1 R2 ho2 hb2 HBB
            refine AnyJ.done (by kernel_rfl) ?_ _
            try simp only [Act.put, List.setIfInBounds_toArray, List.set_cons_zero, List.set_cons_succ]
            go_wp2_with fail
            go_meet
            exact ⟨w3.heap.size, (w3.heap.size + 1), rfl, rfl, by omega, by omega, by omega, R1', R2', HBC⟩
          · go_simp
            refine hKz _ _ (fun _ => HKS.out _ (by (repeat' (first | (with_reducible exact Below.refl _ _) | (with_reducible assumption) | (with_reducible exact Bw.out (by with_reducible assumption)) | (with_reducible refine bw_alloc ?_ _) | (with_reducible refine bw_step ?_ (by with_reducible assumption)) | (with_reducible refine Below.alloc ?_ ?_ _) | (with_reducible refine Below.drew ?_) | (with_reducible refine below_drewN ?_ _) | (with_reducible refine Below.setCell ?_ ?_ _) | (with_reducible refine below_step ?_ (by with_reducible assumption) ?_) | (with_reducible exact Nat.le_refl _) | omega | (simp; omega) | (simp; done))))) ?_
            clear hKz Kz
            refine AnyJ.one (i := 2) (by kernel_rfl) rfl (fun Kz hKz => ?_)
            go_simp
            refine hKz _ _ (fun _ => HKS.out _ (by (repeat' (first | (with_reducible exact Below.refl _ _) | (with_reducible assumption) | (with_reducible exact Bw.out (by with_reducible assumption)) | (with_reducible refine bw_alloc ?_ _) | (with_reducible refine bw_step ?_ (by with_reducible assumption)) | (with_reducible refine Below.alloc ?_ ?_ _) | (with_reducible refine Below.drew ?_) | (with_reducible refine below_drewN ?_ _) | (with_reducible refine Below.setCell ?_ ?_ _) | (with_reducible refine below_step ?_ (by with_reducible assumption) ?_) | (with_reducible exact Nat.le_refl _) | omega | (simp; omega) | (simp; done))))) ?_
            clear hKz Kz
            generalize hwA : ((w3.alloc _).alloc _).drew = wA
            have RA : Row wA w3.heap.size [.int .i64 0, .int .i64 0, .int .i64 0, .int .i64 0, .int .i64 0, .slice none 0 0, .int .i64 0, .int .i64 0, .int .i64 0, .slice none 0 0] := by rw [← hwA]; exact (Row.new' w3 [.int .i64 0, .int .i64 0, .int .i64 0, .int .i64 0, .int .i64 0, .slice none 0 0, .int .i64 0, .int .i64 0, .int .i64 0, .slice none 0 0] 29 rfl).alloc _
            have RB : Row wA (w3.heap.size + 1) [.int .i64 0, .int .i64 0, .int .i64 0, .int .i64 0, .int .i64 0, .slice none 0 0, .int .i64 0, .int .i64 0, .int .i64 0, .slice none 0 0] := by rw [← hwA]; exact Row.new' _ [.int .i64 0, .int .i64 0, .int .i64 0, .int .i64 0, .int .i64 0, .slice none 0 0, .int .i64 0, .int .i64 0, .int .i64 0, .slice none 0 0] 29 (by simp)
            have HBA : Below w3.heap.size w3 wA := by rw [← hwA]; (repeat' (first | (with_reducible exact Below.refl _ _) | (with_reducible assumption) | (with_reducible exact Bw.out (by with_reducible assumption)) | (with_reducible refine bw_alloc ?_ _) | (with_reducible refine bw_step ?_ (by with_reducible assumption)) | (with_reducible refine Below.alloc ?_ ?_ _) | (with_reducible refine Below.drew ?_) | (with_reducible refine below_drewN ?_ _) | (with_reducible refine Below.setCell ?_ ?_ _) | (with_reducible refine below_step ?_ (by with_reducible assumption) ?_) | (with_reducible exact Nat.le_refl _) | omega | (simp; omega) | (simp; done)))
            clear hwA
            have rac0 := RA.cell 0 rfl
            have raz0 := RA.frozen 0
            have rac1 := RA.cell 1 rfl
            have raz1 := RA.frozen 1
            have rac2 := RA.cell 2 rfl
            have raz2 := RA.frozen 2
            have rac3 := RA.cell 3 rfl
            have raz3 := RA.frozen 3
            have rac4 := RA.cell 4 rfl
            have raz4 := RA.frozen 4
            have rac5 := RA.cell 5 rfl
            have raz5 := RA.frozen 5
            have rac6 := RA.cell 6 rfl
            have raz6 := RA.frozen 6
            have rac7 := RA.cell 7 rfl
            have raz7 := RA.frozen 7
            have rac8 := RA.cell 8 rfl
            have raz8 := RA.frozen 8
            have rac9 := RA.cell 9 rfl
            have raz9 := RA.frozen 9
            have ral := RA.lt
            have rbc0 := RB.cell 0 rfl
            have rbz0 := RB.frozen 0
            have rbc1 := RB.cell 1 rfl
            have rbz1 := RB.frozen 1
            have rbc2 := RB.cell 2 rfl
            have rbz2 := RB.frozen 2
            have rbc3 := RB.cell 3 rfl
            have rbz3 := RB.frozen 3
            have rbc4 := RB.cell 4 rfl
            have rbz4 := RB.frozen 4
            have rbc5 := RB.cell 5 rfl
            have rbz5 := RB.frozen 5
            have rbc6 := RB.cell 6 rfl
            have rbz6 := RB.frozen 6
            have rbc7 := RB.cell 7 rfl
            have rbz7 := RB.frozen 7
            have rbc8 := RB.cell 8 rfl
            have rbz8 := RB.frozen 8
            have rbc9 := RB.cell 9 rfl
            have rbz9 := RB.frozen 9
            have rbl := RB.lt
            refine AnyJ.one (i := 4) (by kernel_rfl) rfl (fun Kz hKz => ?_)
            go_simp
            obtain ⟨wB, hwB, R1, ho1, hb1⟩ := RB.put10 (.int .i64 B.id) (.int .i64 B.kind) (.int .i64 B.rooms) (.int .i64 B.fr) (.int .i64 B.un) (.slice ca cn cc) (.int .i64 B.pn) (.int .i64 B.pd) (.int .i64 B.fee) (.slice (some ⟨bb, off, none⟩) pm pc)
            rw [hwB]
            have R2 := RA.of_block (ho1 _ (by simp))
            have HBB := hb1 _ _ (by simp) HBA
            refine hKz _ _ (fun _ => HKS.out _ HBB) ?_
            clear hKz Kz hwB rac0 raz0 rac1 raz1 rac2 raz2 rac3 raz3 rac4 raz4 rac5 raz5 rac6 raz6 rac7 raz7 rac8 raz8 rac9 raz9 rbc0 rbz0 rbc1 rbz1 rbc2 rbz2 rbc3 rbz3 rbc4 rbz4 rbc5 rbz5 rbc6 rbz6 rbc7 rbz7 rbc8 rbz8 rbc9 rbz9 ral rbl RA RB ho1 hb1 HBA
            have rbc0 := R2.cell 0 rfl
            have rbz0 := R2.frozen 0
            have rbc1 := R2.cell 1 rfl
            have rbz1 := R2.frozen 1
            have rbc2 := R2.cell 2 rfl
            have rbz2 := R2.frozen 2
            have rbc3 := R2.cell 3 rfl
            have rbz3 := R2.frozen 3
            have rbc4 := R2.cell 4 rfl
            have rbz4 := R2.frozen 4
            have rbc5 := R2.cell 5 rfl
            have rbz5 := R2.frozen 5
            have rbc6 := R2.cell 6 rfl
            have rbz6 := R2.frozen 6
            have rbc7 := R2.cell 7 rfl
            have rbz7 := R2.frozen 7
            have rbc8 := R2.cell 8 rfl
            have rbz8 := R2.frozen 8
            have rbc9 := R2.cell 9 rfl
            have rbz9 := R2.frozen 9
            have rbl := R2.lt
            refine AnyJ.one (i := 5) (by kernel_rfl) rfl (fun Kz hKz => ?_)
            go_simp
            obtain ⟨wC, hwC, R2', ho2, hb2⟩ := R2.put10 (.int .i64 B.id) (.int .i64 B.kind) (.int .i64 B.rooms) (.int .i64 B.fr) (.int .i64 B.un) (.slice ca cn cc) (.int .i64 B.pn) (.int .i64 B.pd) (.int .i64 B.fee) (.slice (some ⟨bb, off, none⟩) pm pc)
            rw [hwC]
            have R1' := R1.of_block (ho2 _ (by simp))
            have HBC := hb2 _ _ (by simp) HBB
            refine hKz _ _ (fun _ => HKS.out _ HBC) ?_
            clear hKz Kz hwC rbc0 rbz0 rbc1 rbz1 rbc2 rbz2 rbc3 rbz3 rbc4 rbz4 rbc5 rbz5 rbc6 rbz6 rbc7 rbz7 rbc8 rbz8 rbc9 rbz9 rbl R1 R2 ho2 hb2 HBB
            refine AnyJ.done (by kernel_rfl) ?_ _
            try simp only [Act.put, List.setIfInBounds_toArray, List.set_cons_zero, List.set_cons_succ]
            go_wp2_with fail
            go_meet
            exact ⟨(w3.heap.size + 1), w3.heap.size, rfl, rfl, by omega, by omega, by omega, R1', R2', HBC⟩
        case' rest =>
          obtain ⟨gx, gy, rfl, rfl, hxy, hgx, hgy, RX4, RY4, hb4⟩ := hcut
          obtain ⟨w4, hw4⟩ : ∃ wd, wd = wc := ⟨_, rfl⟩
          subst hw4
          replace hb4 := hb4.out
          clear HKS
          have R_b_4 : Row w4 (w.heap.size) [.int .i64 B.id, .int .i64 B.kind, .int .i64 B.rooms, .int .i64 B.fr, .int .i64 B.un, .slice ca cn cc, .int .i64 B.pn, .int .i64 B.pd, .int .i64 B.fee, .slice (some ⟨bb, off, none⟩) pm pc] := by (repeat' (first | (with_reducible assumption) | (with_reducible refine Row.new' _ _ _ (by first | rfl | (simp; done) | omega)) | (with_reducible refine Row.alloc ?_ _) | (with_reducible refine Row.drew ?_) | (with_reducible refine Row.drewN ?_ _) | (with_reducible refine Row.step ?_ (by with_reducible assumption)) | (with_reducible refine Row.set2' ?_ _ _; first | exact ⟨_, _, by with_reducible assumption⟩ | exact ⟨_, _, Row.alloc (by with_reducible assumption) _⟩ | exact ⟨_, _, Row.alloc (Row.alloc (by with_reducible assumption) _) _⟩) | (with_reducible refine Row.other ?_ (by first | omega | (simp; done) | (simp; omega)) _)))
          have c_b_0_4 := R_b_4.cell 0 rfl
          have c_b_1_4 := R_b_4.cell 1 rfl
          have c_b_2_4 := R_b_4.cell 2 rfl
          have c_b_3_4 := R_b_4.cell 3 rfl
          have c_b_4_4 := R_b_4.cell 4 rfl
          have c_b_5_4 := R_b_4.cell 5 rfl
          have c_b_6_4 := R_b_4.cell 6 rfl
          have c_b_7_4 := R_b_4.cell 7 rfl
          have c_b_8_4 := R_b_4.cell 8 rfl
          have c_b_9_4 := R_b_4.cell 9 rfl
          have l_b_4 := R_b_4.lt
          have R_x_4 : Row w4 (gx) [.int .i64 B.id, .int .i64 B.kind, .int .i64 B.rooms, .int .i64 B.fr, .int .i64 B.un, .slice ca cn cc, .int .i64 B.pn, .int .i64 B.pd, .int .i64 B.fee, .slice (some ⟨bb, off, none⟩) pm pc] := by (repeat' (first | (with_reducible assumption) | (with_reducible refine Row.new' _ _ _ (by first | rfl | (simp; done) | omega)) | (with_reducible refine Row.alloc ?_ _) | (with_reducible refine Row.drew ?_) | (with_reducible refine Row.drewN ?_ _) | (with_reducible refine Row.step ?_ (by with_reducible assumption)) | (with_reducible refine Row.set2' ?_ _ _; first | exact ⟨_, _, by with_reducible assumption⟩ | exact ⟨_, _, Row.alloc (by with_reducible assumption) _⟩ | exact ⟨_, _, Row.alloc (Row.alloc (by with_reducible assumption) _) _⟩) | (with_reducible refine Row.other ?_ (by first | omega | (simp; done) | (simp; omega)) _)))
          have c_x_0_4 := R_x_4.cell 0 rfl
          have c_x_1_4 := R_x_4.cell 1 rfl
          have c_x_2_4 := R_x_4.cell 2 rfl
          have c_x_3_4 := R_x_4.cell 3 rfl
          have c_x_4_4 := R_x_4.cell 4 rfl
          have c_x_5_4 := R_x_4.cell 5 rfl
          have c_x_6_4 := R_x_4.cell 6 rfl
          have c_x_7_4 := R_x_4.cell 7 rfl
          have c_x_8_4 := R_x_4.cell 8 rfl
          have c_x_9_4 := R_x_4.cell 9 rfl
          have z_x_0_4 := R_x_4.frozen 0
          have z_x_1_4 := R_x_4.frozen 1
          have z_x_2_4 := R_x_4.frozen 2
          have z_x_3_4 := R_x_4.frozen 3
          have z_x_4_4 := R_x_4.frozen 4
          have z_x_5_4 := R_x_4.frozen 5
          have z_x_6_4 := R_x_4.frozen 6
          have z_x_7_4 := R_x_4.frozen 7
          have z_x_8_4 := R_x_4.frozen 8
          have z_x_9_4 := R_x_4.frozen 9
          have l_x_4 := R_x_4.lt
          have R_y_4 : Row w4 (gy) [.int .i64 B.id, .int .i64 B.kind, .int .i64 B.rooms, .int .i64 B.fr, .int .i64 B.un, .slice ca cn cc, .int .i64 B.pn, .int .i64 B.pd, .int .i64 B.fee, .slice (some ⟨bb, off, none⟩) pm pc] := by (repeat' (first | (with_reducible assumption) | (with_reducible refine Row.new' _ _ _ (by first | rfl | (simp; done) | omega)) | (with_reducible refine Row.alloc ?_ _) | (with_reducible refine Row.drew ?_) | (with_reducible refine Row.drewN ?_ _) | (with_reducible refine Row.step ?_ (by with_reducible assumption)) | (with_reducible refine Row.set2' ?_ _ _; first | exact ⟨_, _, by with_reducible assumption⟩ | exact ⟨_, _, Row.alloc (by with_reducible assumption) _⟩ | exact ⟨_, _, Row.alloc (Row.alloc (by with_reducible assumption) _) _⟩) | (with_reducible refine Row.other ?_ (by first | omega | (simp; done) | (simp; omega)) _)))
          have c_y_0_4 := R_y_4.cell 0 rfl
          have c_y_1_4 := R_y_4.cell 1 rfl
          have c_y_2_4 := R_y_4.cell 2 rfl
          have c_y_3_4 := R_y_4.cell 3 rfl
          have c_y_4_4 := R_y_4.cell 4 rfl
          have c_y_5_4 := R_y_4.cell 5 rfl
          have c_y_6_4 := R_y_4.cell 6 rfl
          have c_y_7_4 := R_y_4.cell 7 rfl
          have c_y_8_4 := R_y_4.cell 8 rfl
          have c_y_9_4 := R_y_4.cell 9 rfl
          have z_y_0_4 := R_y_4.frozen 0
          have z_y_1_4 := R_y_4.frozen 1
          have z_y_2_4 := R_y_4.frozen 2
          have z_y_3_4 := R_y_4.frozen 3
          have z_y_4_4 := R_y_4.frozen 4
          have z_y_5_4 := R_y_4.frozen 5
          have z_y_6_4 := R_y_4.frozen 6
          have z_y_7_4 := R_y_4.frozen 7
          have z_y_8_4 := R_y_4.frozen 8
          have z_y_9_4 := R_y_4.frozen 9
          have l_y_4 := R_y_4.lt
          have HB4 : Below w.heap.size w w4 := by (repeat' (first | (with_reducible exact Below.refl _ _) | (with_reducible assumption) | (with_reducible exact Bw.out (by with_reducible assumption)) | (with_reducible refine bw_alloc ?_ _) | (with_reducible refine bw_step ?_ (by with_reducible assumption)) | (with_reducible refine Below.alloc ?_ ?_ _) | (with_reducible refine Below.drew ?_) | (with_reducible refine below_drewN ?_ _) | (with_reducible refine Below.setCell ?_ ?_ _) | (with_reducible refine below_step ?_ (by with_reducible assumption) ?_) | (with_reducible exact Nat.le_refl _) | omega | (simp; omega) | (simp; done)))
          clear R_b_3 c_b_0_3 c_b_1_3 c_b_2_3 c_b_3_3 c_b_4_3 c_b_5_3 c_b_6_3 c_b_7_3 c_b_8_3 c_b_9_3 hb3 HB3
          clear RX4 RY4
          have hgxw : w.heap.size < gx := by omega
          have hgyw : w.heap.size < gy := by omega
          have hgx4 : gx < w4.heap.size := l_x_4
          have hgy4 : gy < w4.heap.size := l_y_4
          have hwb4 : w.heap.size < w4.heap.size := l_b_4
          have KC4 := Lib.hid (K0.out.cuts.below HB4)
          go_upto_region 7 with (first | (at_builtin; refine wpList_append_cuts rfl _ _ _ rfl Try.underlying24 w4.heap.size (.slice (some ⟨w4.heap.size, 0, none⟩) 0 0) [] rfl (OwnC.lit ⟨_, heap_new _ _, rfl⟩ (Nat.le_refl _)) ca cn cc B.cuts rfl (KC4.out.below (by (repeat' (first | (with_reducible exact Below.refl _ _) | (with_reducible assumption) | (with_reducible exact Bw.out (by with_reducible assumption)) | (with_reducible refine bw_alloc ?_ _) | (with_reducible refine bw_step ?_ (by with_reducible assumption)) | (with_reducible refine Below.alloc ?_ ?_ _) | (with_reducible refine Below.drew ?_) | (with_reducible refine below_drewN ?_ _) | (with_reducible refine Below.setCell ?_ ?_ _) | (with_reducible refine below_step ?_ (by with_reducible assumption) ?_) | (with_reducible exact Nat.le_refl _) | omega | (simp; omega) | (simp; done))))) (by simp; omega) (by simp) ?_; intro v' w5 hown5 hbl5 hsz5; obtain ⟨a5, p5, rfl, ho5⟩ := hown5.shape cn (by rw [List.nil_append]; exact HLC.out)) | (at_builtin; refine wpList_append_cuts rfl _ _ _ rfl Try.underlying24 w4.heap.size (.slice a5 cn p5) ([] ++ B.cuts) rfl (ho5.alloc _) (some ⟨w5.heap.size, 0, none⟩) 1 _ [(day, 1, 1)] rfl (Sl3.one (Row.new' w5 [_, _, _] _ rfl)) (by rw [List.nil_append, HLC.out]; omega) (by simp at hsz5 ⊢; omega) ?_; intro v' w6 hown6 hbl6 hsz6; obtain ⟨a6, p6, rfl, ho6⟩ := hown6.shape (cn + 1) (by rw [List.nil_append, List.length_append, HLC.out]; rfl); obtain ⟨g6, rfl, hg6, hl6, hs6, hp6, hq6⟩ := ho6.own (by simp); have hb5 : Below w4.heap.size w4 w5 := hbl5 w4 (by (repeat' (first | (with_reducible exact Below.refl _ _) | (with_reducible assumption) | (with_reducible exact Bw.out (by with_reducible assumption)) | (with_reducible refine bw_alloc ?_ _) | (with_reducible refine bw_step ?_ (by with_reducible assumption)) | (with_reducible refine Below.alloc ?_ ?_ _) | (with_reducible refine Below.drew ?_) | (with_reducible refine below_drewN ?_ _) | (with_reducible refine Below.setCell ?_ ?_ _) | (with_reducible refine below_step ?_ (by with_reducible assumption) ?_) | (with_reducible exact Nat.le_refl _) | omega | (simp; omega) | (simp; done)))); have hb6 : Below w4.heap.size w4 w6 := hbl6 w4 (hb5.alloc (hb5.size) _); have R_x_6 := R_x_4.step hb6; have cx6 := R_x_6.cell 5 rfl; have zx6 := R_x_6.frozen 5; have lx6 := R_x_6.lt))
          clear cx6 zx6
          rw [List.nil_append] at hs6
          obtain ⟨w7, hw7⟩ : ∃ wd, w6.setCell ⟨gx, 5, none⟩ (.slice (some ⟨g6, 0, none⟩) (cn + 1) p6) = wd := ⟨_, rfl⟩
          rw [hw7]
          have R_x_7 : Row w7 gx [.int .i64 B.id, .int .i64 B.kind, .int .i64 B.rooms, .int .i64 B.fr, .int .i64 B.un, .slice (some ⟨g6, 0, none⟩) (cn + 1) p6, .int .i64 B.pn, .int .i64 B.pd, .int .i64 B.fee, .slice (some ⟨bb, off, none⟩) pm pc] := by rw [← hw7]; exact R_x_6.putAt 5 _ rfl
          have R_y_7 : Row w7 gy [.int .i64 B.id, .int .i64 B.kind, .int .i64 B.rooms, .int .i64 B.fr, .int .i64 B.un, .slice ca cn cc, .int .i64 B.pn, .int .i64 B.pd, .int .i64 B.fee, .slice (some ⟨bb, off, none⟩) pm pc] := by rw [← hw7]; exact (R_y_4.step hb6).other (by simp; omega) _
          have R_b_7 : Row w7 w.heap.size [.int .i64 B.id, .int .i64 B.kind, .int .i64 B.rooms, .int .i64 B.fr, .int .i64 B.un, .slice ca cn cc, .int .i64 B.pn, .int .i64 B.pd, .int .i64 B.fee, .slice (some ⟨bb, off, none⟩) pm pc] := by rw [← hw7]; exact (R_b_4.step hb6).other (by simp; omega) _
          have Sx7 : Sl3 w7 (some ⟨g6, 0, none⟩) (cn + 1) (B.cuts ++ [(day, 1, 1)]) := by rw [← hw7]; exact hs6.of_block (Below.heap_setCell _ _ _ _ (by simp; omega))
          have HB7 : Below w.heap.size w w7 := by rw [← hw7]; exact (HB4.trans (hb6.mono HB4.size)).setCell (by simp; omega) _
          clear hw7 hs6 ho6 hown6 hbl6 ho5 hown5 hbl5 hb5 hb6 R_x_6 KC4 R_x_4 R_y_4 R_b_4 HB4 hb4 c_x_0_4 c_y_0_4 c_b_0_4 z_x_0_4 z_y_0_4 c_x_1_4 c_y_1_4 c_b_1_4 z_x_1_4 z_y_1_4 c_x_2_4 c_y_2_4 c_b_2_4 z_x_2_4 z_y_2_4 c_x_3_4 c_y_3_4 c_b_3_4 z_x_3_4 z_y_3_4 c_x_4_4 c_y_4_4 c_b_4_4 z_x_4_4 z_y_4_4 c_x_5_4 c_y_5_4 c_b_5_4 z_x_5_4 z_y_5_4 c_x_6_4 c_y_6_4 c_b_6_4 z_x_6_4 z_y_6_4 c_x_7_4 c_y_7_4 c_b_7_4 z_x_7_4 z_y_7_4 c_x_8_4 c_y_8_4 c_b_8_4 z_x_8_4 z_y_8_4 c_x_9_4 c_y_9_4 c_b_9_4 z_x_9_4 z_y_9_4
          have c_b_5_7 := R_b_7.cell 5 rfl
          have hgx7 : gx < w7.heap.size := R_x_7.lt
          have hgy7 : gy < w7.heap.size := R_y_7.lt
          have hwb7 : w.heap.size < w7.heap.size := R_b_7.lt
          have hg67 : g6 < w7.heap.size := by
            obtain ⟨_, _, _, _, _, _, _, _, e, hlt, _⟩ := Sx7.get (i := 0) (by omega)
            cases e
            exact hlt
          have KC7 := Lib.hid (K0.out.cuts.below HB7)
          go_upto_region 8 with (first | (at_builtin; refine wpList_append_cuts rfl _ _ _ rfl Try.underlying24 w7.heap.size (.slice (some ⟨w7.heap.size, 0, none⟩) 0 0) [] rfl (OwnC.lit ⟨_, heap_new _ _, rfl⟩ (Nat.le_refl _)) ca cn cc B.cuts rfl (KC7.out.below (by (repeat' (first | (with_reducible exact Below.refl _ _) | (with_reducible assumption) | (with_reducible exact Bw.out (by with_reducible assumption)) | (with_reducible refine bw_alloc ?_ _) | (with_reducible refine bw_step ?_ (by with_reducible assumption)) | (with_reducible refine Below.alloc ?_ ?_ _) | (with_reducible refine Below.drew ?_) | (with_reducible refine below_drewN ?_ _) | (with_reducible refine Below.setCell ?_ ?_ _) | (with_reducible refine below_step ?_ (by with_reducible assumption) ?_) | (with_reducible exact Nat.le_refl _) | omega | (simp; omega) | (simp; done))))) (by simp; omega) (by simp) ?_; intro v' w8 hown8 hbl8 hsz8; obtain ⟨a8, p8, rfl, ho8⟩ := hown8.shape cn (by rw [List.nil_append]; exact HLC.out)) | (at_builtin; refine wpList_append_cuts rfl _ _ _ rfl Try.underlying24 w7.heap.size (.slice a8 cn p8) ([] ++ B.cuts) rfl (ho8.alloc _) (some ⟨w8.heap.size, 0, none⟩) 1 _ [(day, 0, 1)] rfl (Sl3.one (Row.new' w8 [_, _, _] _ rfl)) (by rw [List.nil_append, HLC.out]; omega) (by simp at hsz8 ⊢; omega) ?_; intro v' w9 hown9 hbl9 hsz9; obtain ⟨a9, p9, rfl, ho9⟩ := hown9.shape (cn + 1) (by rw [List.nil_append, List.length_append, HLC.out]; rfl); obtain ⟨g9, rfl, hg9, hl9, hs9, hp9, hq9⟩ := ho9.own (by simp); have hb8 : Below w7.heap.size w7 w8 := hbl8 w7 (by (repeat' (first | (with_reducible exact Below.refl _ _) | (with_reducible assumption) | (with_reducible exact Bw.out (by with_reducible assumption)) | (with_reducible refine bw_alloc ?_ _) | (with_reducible refine bw_step ?_ (by with_reducible assumption)) | (with_reducible refine Below.alloc ?_ ?_ _) | (with_reducible refine Below.drew ?_) | (with_reducible refine below_drewN ?_ _) | (with_reducible refine Below.setCell ?_ ?_ _) | (with_reducible refine below_step ?_ (by with_reducible assumption) ?_) | (with_reducible exact Nat.le_refl _) | omega | (simp; omega) | (simp; done)))); have hb9 : Below w7.heap.size w7 w9 := hbl9 w7 (hb8.alloc (hb8.size) _); have R_y_9 := R_y_7.step hb9; have cx9 := R_y_9.cell 5 rfl; have zx9 := R_y_9.frozen 5; have lx9 := R_y_9.lt))
          clear cx9 zx9
          rw [List.nil_append] at hs9
          obtain ⟨w10, hw10⟩ : ∃ wd, w9.setCell ⟨gy, 5, none⟩ (.slice (some ⟨g9, 0, none⟩) (cn + 1) p9) = wd := ⟨_, rfl⟩
          rw [hw10]
          have R_y_10 : Row w10 gy [.int .i64 B.id, .int .i64 B.kind, .int .i64 B.rooms, .int .i64 B.fr, .int .i64 B.un, .slice (some ⟨g9, 0, none⟩) (cn + 1) p9, .int .i64 B.pn, .int .i64 B.pd, .int .i64 B.fee, .slice (some ⟨bb, off, none⟩) pm pc] := by rw [← hw10]; exact R_y_9.putAt 5 _ rfl
          have R_x_10 : Row w10 gx [.int .i64 B.id, .int .i64 B.kind, .int .i64 B.rooms, .int .i64 B.fr, .int .i64 B.un, .slice (some ⟨g6, 0, none⟩) (cn + 1) p6, .int .i64 B.pn, .int .i64 B.pd, .int .i64 B.fee, .slice (some ⟨bb, off, none⟩) pm pc] := by rw [← hw10]; exact (R_x_7.step hb9).other (by simp; omega) _
          have R_b_10 : Row w10 w.heap.size [.int .i64 B.id, .int .i64 B.kind, .int .i64 B.rooms, .int .i64 B.fr, .int .i64 B.un, .slice ca cn cc, .int .i64 B.pn, .int .i64 B.pd, .int .i64 B.fee, .slice (some ⟨bb, off, none⟩) pm pc] := by rw [← hw10]; exact (R_b_7.step hb9).other (by simp; omega) _
          have Sy10 : Sl3 w10 (some ⟨g9, 0, none⟩) (cn + 1) (B.cuts ++ [(day, 0, 1)]) := by rw [← hw10]; exact hs9.of_block (Below.heap_setCell _ _ _ _ (by simp; omega))
          have HB10 : Below w.heap.size w w10 := by rw [← hw10]; exact (HB7.trans (hb9.mono HB7.size)).setCell (by simp; omega) _
          have Sx10 : Sl3 w10 (some ⟨g6, 0, none⟩) (cn + 1) (B.cuts ++ [(day, 1, 1)]) := by rw [← hw10]; exact (Sx7.below hb9).of_block (Below.heap_setCell _ _ _ _ (by simp; omega))
          clear hw10 hs9 ho9 hown9 hbl9 ho8 hown8 hbl8 hb8 hb9 R_y_9 KC7 R_x_7 R_y_7 R_b_7 HB7 Sx7 c_b_5_7
          have c_x_0_10 := R_x_10.cell 0 rfl
          have c_x_1_10 := R_x_10.cell 1 rfl
          have c_x_2_10 := R_x_10.cell 2 rfl
          have c_x_3_10 := R_x_10.cell 3 rfl
          have c_x_4_10 := R_x_10.cell 4 rfl
          have c_x_5_10 := R_x_10.cell 5 rfl
          have c_x_6_10 := R_x_10.cell 6 rfl
          have c_x_7_10 := R_x_10.cell 7 rfl
          have c_x_8_10 := R_x_10.cell 8 rfl
          have c_x_9_10 := R_x_10.cell 9 rfl
          have l_x_10 := R_x_10.lt
          have c_y_0_10 := R_y_10.cell 0 rfl
          have c_y_1_10 := R_y_10.cell 1 rfl
          have c_y_2_10 := R_y_10.cell 2 rfl
          have c_y_3_10 := R_y_10.cell 3 rfl
          have c_y_4_10 := R_y_10.cell 4 rfl
          have c_y_5_10 := R_y_10.cell 5 rfl
          have c_y_6_10 := R_y_10.cell 6 rfl
          have c_y_7_10 := R_y_10.cell 7 rfl
          have c_y_8_10 := R_y_10.cell 8 rfl
          have c_y_9_10 := R_y_10.cell 9 rfl
          have l_y_10 := R_y_10.lt
          have c_b_0_10 := R_b_10.cell 0 rfl
          have c_b_1_10 := R_b_10.cell 1 rfl
          have c_b_2_10 := R_b_10.cell 2 rfl
          have c_b_3_10 := R_b_10.cell 3 rfl
          have c_b_4_10 := R_b_10.cell 4 rfl
          have c_b_5_10 := R_b_10.cell 5 rfl
          have c_b_6_10 := R_b_10.cell 6 rfl
          have c_b_7_10 := R_b_10.cell 7 rfl
          have c_b_8_10 := R_b_10.cell 8 rfl
          have c_b_9_10 := R_b_10.cell 9 rfl
          have l_b_10 := R_b_10.lt
          have HSx := Lib.hid Sx10
          have HSy := Lib.hid Sy10
          clear Sx10 Sy10
          go_wp2_with fail
          refine (g_Held_any B T (B.fr + j) _ _ _ _ _ _ _ (K0.out.below (by (repeat' (first | (with_reducible exact Below.refl _ _) | (with_reducible assumption) | (with_reducible exact Bw.out (by with_reducible assumption)) | (with_reducible refine bw_alloc ?_ _) | (with_reducible refine bw_step ?_ (by with_reducible assumption)) | (with_reducible refine Below.alloc ?_ ?_ _) | (with_reducible refine Below.drew ?_) | (with_reducible refine below_drewN ?_ _) | (with_reducible refine Below.setCell ?_ ?_ _) | (with_reducible refine below_step ?_ (by with_reducible assumption) ?_) | (with_reducible exact Nat.le_refl _) | omega | (simp; omega) | (simp; done))))) X 0 HVX.out HEX.out).mono ?_
          rintro e w11 ⟨rfl, hb11⟩
          have R_b_11 : Row w11 (w.heap.size) [.int .i64 B.id, .int .i64 B.kind, .int .i64 B.rooms, .int .i64 B.fr, .int .i64 B.un, .slice ca cn cc, .int .i64 B.pn, .int .i64 B.pd, .int .i64 B.fee, .slice (some ⟨bb, off, none⟩) pm pc] := by (repeat' (first | (with_reducible assumption) | (with_reducible refine Row.new' _ _ _ (by first | rfl | (simp; done) | omega)) | (with_reducible refine Row.alloc ?_ _) | (with_reducible refine Row.drew ?_) | (with_reducible refine Row.drewN ?_ _) | (with_reducible refine Row.step ?_ (by with_reducible assumption)) | (with_reducible refine Row.set2' ?_ _ _; first | exact ⟨_, _, by with_reducible assumption⟩ | exact ⟨_, _, Row.alloc (by with_reducible assumption) _⟩ | exact ⟨_, _, Row.alloc (Row.alloc (by with_reducible assumption) _) _⟩) | (with_reducible refine Row.other ?_ (by first | omega | (simp; done) | (simp; omega)) _)))
          have c_b_0_11 := R_b_11.cell 0 rfl
          have c_b_1_11 := R_b_11.cell 1 rfl
          have c_b_2_11 := R_b_11.cell 2 rfl
          have c_b_3_11 := R_b_11.cell 3 rfl
          have c_b_4_11 := R_b_11.cell 4 rfl
          have c_b_5_11 := R_b_11.cell 5 rfl
          have c_b_6_11 := R_b_11.cell 6 rfl
          have c_b_7_11 := R_b_11.cell 7 rfl
          have c_b_8_11 := R_b_11.cell 8 rfl
          have c_b_9_11 := R_b_11.cell 9 rfl
          have l_b_11 := R_b_11.lt
          have R_x_11 : Row w11 (gx) [.int .i64 B.id, .int .i64 B.kind, .int .i64 B.rooms, .int .i64 B.fr, .int .i64 B.un, .slice (some ⟨g6, 0, none⟩) (cn + 1) p6, .int .i64 B.pn, .int .i64 B.pd, .int .i64 B.fee, .slice (some ⟨bb, off, none⟩) pm pc] := by (repeat' (first | (with_reducible assumption) | (with_reducible refine Row.new' _ _ _ (by first | rfl | (simp; done) | omega)) | (with_reducible refine Row.alloc ?_ _) | (with_reducible refine Row.drew ?_) | (with_reducible refine Row.drewN ?_ _) | (with_reducible refine Row.step ?_ (by with_reducible assumption)) | (with_reducible refine Row.set2' ?_ _ _; first | exact ⟨_, _, by with_reducible assumption⟩ | exact ⟨_, _, Row.alloc (by with_reducible assumption) _⟩ | exact ⟨_, _, Row.alloc (Row.alloc (by with_reducible assumption) _) _⟩) | (with_reducible refine Row.other ?_ (by first | omega | (simp; done) | (simp; omega)) _)))
          have c_x_0_11 := R_x_11.cell 0 rfl
          have c_x_1_11 := R_x_11.cell 1 rfl
          have c_x_2_11 := R_x_11.cell 2 rfl
          have c_x_3_11 := R_x_11.cell 3 rfl
          have c_x_4_11 := R_x_11.cell 4 rfl
          have c_x_5_11 := R_x_11.cell 5 rfl
          have c_x_6_11 := R_x_11.cell 6 rfl
          have c_x_7_11 := R_x_11.cell 7 rfl
          have c_x_8_11 := R_x_11.cell 8 rfl
          have c_x_9_11 := R_x_11.cell 9 rfl
          have l_x_11 := R_x_11.lt
          have R_y_11 : Row w11 (gy) [.int .i64 B.id, .int .i64 B.kind, .int .i64 B.rooms, .int .i64 B.fr, .int .i64 B.un, .slice (some ⟨g9, 0, none⟩) (cn + 1) p9, .int .i64 B.pn, .int .i64 B.pd, .int .i64 B.fee, .slice (some ⟨bb, off, none⟩) pm pc] := by (repeat' (first | (with_reducible assumption) | (with_reducible refine Row.new' _ _ _ (by first | rfl | (simp; done) | omega)) | (with_reducible refine Row.alloc ?_ _) | (with_reducible refine Row.drew ?_) | (with_reducible refine Row.drewN ?_ _) | (with_reducible refine Row.step ?_ (by with_reducible assumption)) | (with_reducible refine Row.set2' ?_ _ _; first | exact ⟨_, _, by with_reducible assumption⟩ | exact ⟨_, _, Row.alloc (by with_reducible assumption) _⟩ | exact ⟨_, _, Row.alloc (Row.alloc (by with_reducible assumption) _) _⟩) | (with_reducible refine Row.other ?_ (by first | omega | (simp; done) | (simp; omega)) _)))
          have c_y_0_11 := R_y_11.cell 0 rfl
          have c_y_1_11 := R_y_11.cell 1 rfl
          have c_y_2_11 := R_y_11.cell 2 rfl
          have c_y_3_11 := R_y_11.cell 3 rfl
          have c_y_4_11 := R_y_11.cell 4 rfl
          have c_y_5_11 := R_y_11.cell 5 rfl
          have c_y_6_11 := R_y_11.cell 6 rfl
          have c_y_7_11 := R_y_11.cell 7 rfl
          have c_y_8_11 := R_y_11.cell 8 rfl
          have c_y_9_11 := R_y_11.cell 9 rfl
          have l_y_11 := R_y_11.lt
          have HB11 : Below w.heap.size w w11 := by (repeat' (first | (with_reducible exact Below.refl _ _) | (with_reducible assumption) | (with_reducible exact Bw.out (by with_reducible assumption)) | (with_reducible refine bw_alloc ?_ _) | (with_reducible refine bw_step ?_ (by with_reducible assumption)) | (with_reducible refine Below.alloc ?_ ?_ _) | (with_reducible refine Below.drew ?_) | (with_reducible refine below_drewN ?_ _) | (with_reducible refine Below.setCell ?_ ?_ _) | (with_reducible refine below_step ?_ (by with_reducible assumption) ?_) | (with_reducible exact Nat.le_refl _) | omega | (simp; omega) | (simp; done)))
          have HSx1 := Lib.hid (HSx.out.below hb11)
          have HSy1 := Lib.hid (HSy.out.below hb11)
          go_wp2_with fail
          refine (g_Held_cut B (B.cuts ++ [(day, 1, 1)]) T (B.fr + j) _ _ _ _ _ _ _ (BlkIn.cut K0.out (by (repeat' (first | (with_reducible exact Below.refl _ _) | (with_reducible assumption) | (with_reducible exact Bw.out (by with_reducible assumption)) | (with_reducible refine bw_alloc ?_ _) | (with_reducible refine bw_step ?_ (by with_reducible assumption)) | (with_reducible refine Below.alloc ?_ ?_ _) | (with_reducible refine Below.drew ?_) | (with_reducible refine below_drewN ?_ _) | (with_reducible refine Below.setCell ?_ ?_ _) | (with_reducible refine below_step ?_ (by with_reducible assumption) ?_) | (with_reducible exact Nat.le_refl _) | omega | (simp; omega) | (simp; done)))) HSx1.out hp6 hq6) X 0 HVA.out HEA.out).mono ?_
          rintro e w12 ⟨rfl, hb12⟩
          have R_b_12 : Row w12 (w.heap.size) [.int .i64 B.id, .int .i64 B.kind, .int .i64 B.rooms, .int .i64 B.fr, .int .i64 B.un, .slice ca cn cc, .int .i64 B.pn, .int .i64 B.pd, .int .i64 B.fee, .slice (some ⟨bb, off, none⟩) pm pc] := by (repeat' (first | (with_reducible assumption) | (with_reducible refine Row.new' _ _ _ (by first | rfl | (simp; done) | omega)) | (with_reducible refine Row.alloc ?_ _) | (with_reducible refine Row.drew ?_) | (with_reducible refine Row.drewN ?_ _) | (with_reducible refine Row.step ?_ (by with_reducible assumption)) | (with_reducible refine Row.set2' ?_ _ _; first | exact ⟨_, _, by with_reducible assumption⟩ | exact ⟨_, _, Row.alloc (by with_reducible assumption) _⟩ | exact ⟨_, _, Row.alloc (Row.alloc (by with_reducible assumption) _) _⟩) | (with_reducible refine Row.other ?_ (by first | omega | (simp; done) | (simp; omega)) _)))
          have c_b_0_12 := R_b_12.cell 0 rfl
          have c_b_1_12 := R_b_12.cell 1 rfl
          have c_b_2_12 := R_b_12.cell 2 rfl
          have c_b_3_12 := R_b_12.cell 3 rfl
          have c_b_4_12 := R_b_12.cell 4 rfl
          have c_b_5_12 := R_b_12.cell 5 rfl
          have c_b_6_12 := R_b_12.cell 6 rfl
          have c_b_7_12 := R_b_12.cell 7 rfl
          have c_b_8_12 := R_b_12.cell 8 rfl
          have c_b_9_12 := R_b_12.cell 9 rfl
          have l_b_12 := R_b_12.lt
          have R_x_12 : Row w12 (gx) [.int .i64 B.id, .int .i64 B.kind, .int .i64 B.rooms, .int .i64 B.fr, .int .i64 B.un, .slice (some ⟨g6, 0, none⟩) (cn + 1) p6, .int .i64 B.pn, .int .i64 B.pd, .int .i64 B.fee, .slice (some ⟨bb, off, none⟩) pm pc] := by (repeat' (first | (with_reducible assumption) | (with_reducible refine Row.new' _ _ _ (by first | rfl | (simp; done) | omega)) | (with_reducible refine Row.alloc ?_ _) | (with_reducible refine Row.drew ?_) | (with_reducible refine Row.drewN ?_ _) | (with_reducible refine Row.step ?_ (by with_reducible assumption)) | (with_reducible refine Row.set2' ?_ _ _; first | exact ⟨_, _, by with_reducible assumption⟩ | exact ⟨_, _, Row.alloc (by with_reducible assumption) _⟩ | exact ⟨_, _, Row.alloc (Row.alloc (by with_reducible assumption) _) _⟩) | (with_reducible refine Row.other ?_ (by first | omega | (simp; done) | (simp; omega)) _)))
          have c_x_0_12 := R_x_12.cell 0 rfl
          have c_x_1_12 := R_x_12.cell 1 rfl
          have c_x_2_12 := R_x_12.cell 2 rfl
          have c_x_3_12 := R_x_12.cell 3 rfl
          have c_x_4_12 := R_x_12.cell 4 rfl
          have c_x_5_12 := R_x_12.cell 5 rfl
          have c_x_6_12 := R_x_12.cell 6 rfl
          have c_x_7_12 := R_x_12.cell 7 rfl
          have c_x_8_12 := R_x_12.cell 8 rfl
          have c_x_9_12 := R_x_12.cell 9 rfl
          have l_x_12 := R_x_12.lt
          have R_y_12 : Row w12 (gy) [.int .i64 B.id, .int .i64 B.kind, .int .i64 B.rooms, .int .i64 B.fr, .int .i64 B.un, .slice (some ⟨g9, 0, none⟩) (cn + 1) p9, .int .i64 B.pn, .int .i64 B.pd, .int .i64 B.fee, .slice (some ⟨bb, off, none⟩) pm pc] := by (repeat' (first | (with_reducible assumption) | (with_reducible refine Row.new' _ _ _ (by first | rfl | (simp; done) | omega)) | (with_reducible refine Row.alloc ?_ _) | (with_reducible refine Row.drew ?_) | (with_reducible refine Row.drewN ?_ _) | (with_reducible refine Row.step ?_ (by with_reducible assumption)) | (with_reducible refine Row.set2' ?_ _ _; first | exact ⟨_, _, by with_reducible assumption⟩ | exact ⟨_, _, Row.alloc (by with_reducible assumption) _⟩ | exact ⟨_, _, Row.alloc (Row.alloc (by with_reducible assumption) _) _⟩) | (with_reducible refine Row.other ?_ (by first | omega | (simp; done) | (simp; omega)) _)))
          have c_y_0_12 := R_y_12.cell 0 rfl
          have c_y_1_12 := R_y_12.cell 1 rfl
          have c_y_2_12 := R_y_12.cell 2 rfl
          have c_y_3_12 := R_y_12.cell 3 rfl
          have c_y_4_12 := R_y_12.cell 4 rfl
          have c_y_5_12 := R_y_12.cell 5 rfl
          have c_y_6_12 := R_y_12.cell 6 rfl
          have c_y_7_12 := R_y_12.cell 7 rfl
          have c_y_8_12 := R_y_12.cell 8 rfl
          have c_y_9_12 := R_y_12.cell 9 rfl
          have l_y_12 := R_y_12.lt
          have HB12 : Below w.heap.size w w12 := by (repeat' (first | (with_reducible exact Below.refl _ _) | (with_reducible assumption) | (with_reducible exact Bw.out (by with_reducible assumption)) | (with_reducible refine bw_alloc ?_ _) | (with_reducible refine bw_step ?_ (by with_reducible assumption)) | (with_reducible refine Below.alloc ?_ ?_ _) | (with_reducible refine Below.drew ?_) | (with_reducible refine below_drewN ?_ _) | (with_reducible refine Below.setCell ?_ ?_ _) | (with_reducible refine below_step ?_ (by with_reducible assumption) ?_) | (with_reducible exact Nat.le_refl _) | omega | (simp; omega) | (simp; done)))
          clear R_b_11 c_b_0_11 c_b_1_11 c_b_2_11 c_b_3_11 c_b_4_11 c_b_5_11 c_b_6_11 c_b_7_11 c_b_8_11 c_b_9_11 R_x_11 c_x_0_11 c_x_1_11 c_x_2_11 c_x_3_11 c_x_4_11 c_x_5_11 c_x_6_11 c_x_7_11 c_x_8_11 c_x_9_11 R_y_11 c_y_0_11 c_y_1_11 c_y_2_11 c_y_3_11 c_y_4_11 c_y_5_11 c_y_6_11 c_y_7_11 c_y_8_11 c_y_9_11 hb11 HB11
          have HSy2 := Lib.hid (HSy1.out.below hb12)
          go_wp2_with fail
          refine (g_Held_cut B (B.cuts ++ [(day, 0, 1)]) T (B.fr + j) _ _ _ _ _ _ _ (BlkIn.cut K0.out (by (repeat' (first | (with_reducible exact Below.refl _ _) | (with_reducible assumption) | (with_reducible exact Bw.out (by with_reducible assumption)) | (with_reducible refine bw_alloc ?_ _) | (with_reducible refine bw_step ?_ (by with_reducible assumption)) | (with_reducible refine Below.alloc ?_ ?_ _) | (with_reducible refine Below.drew ?_) | (with_reducible refine below_drewN ?_ _) | (with_reducible refine Below.setCell ?_ ?_ _) | (with_reducible refine below_step ?_ (by with_reducible assumption) ?_) | (with_reducible exact Nat.le_refl _) | omega | (simp; omega) | (simp; done)))) HSy2.out hp9 hq9) z 0 HVN.out HEN.out).mono ?_
          rintro e w13 ⟨rfl, hb13⟩
          have R_b_13 : Row w13 (w.heap.size) [.int .i64 B.id, .int .i64 B.kind, .int .i64 B.rooms, .int .i64 B.fr, .int .i64 B.un, .slice ca cn cc, .int .i64 B.pn, .int .i64 B.pd, .int .i64 B.fee, .slice (some ⟨bb, off, none⟩) pm pc] := by (repeat' (first | (with_reducible assumption) | (with_reducible refine Row.new' _ _ _ (by first | rfl | (simp; done) | omega)) | (with_reducible refine Row.alloc ?_ _) | (with_reducible refine Row.drew ?_) | (with_reducible refine Row.drewN ?_ _) | (with_reducible refine Row.step ?_ (by with_reducible assumption)) | (with_reducible refine Row.set2' ?_ _ _; first | exact ⟨_, _, by with_reducible assumption⟩ | exact ⟨_, _, Row.alloc (by with_reducible assumption) _⟩ | exact ⟨_, _, Row.alloc (Row.alloc (by with_reducible assumption) _) _⟩) | (with_reducible refine Row.other ?_ (by first | omega | (simp; done) | (simp; omega)) _)))
          have c_b_0_13 := R_b_13.cell 0 rfl
          have c_b_1_13 := R_b_13.cell 1 rfl
          have c_b_2_13 := R_b_13.cell 2 rfl
          have c_b_3_13 := R_b_13.cell 3 rfl
          have c_b_4_13 := R_b_13.cell 4 rfl
          have c_b_5_13 := R_b_13.cell 5 rfl
          have c_b_6_13 := R_b_13.cell 6 rfl
          have c_b_7_13 := R_b_13.cell 7 rfl
          have c_b_8_13 := R_b_13.cell 8 rfl
          have c_b_9_13 := R_b_13.cell 9 rfl
          have l_b_13 := R_b_13.lt
          have R_x_13 : Row w13 (gx) [.int .i64 B.id, .int .i64 B.kind, .int .i64 B.rooms, .int .i64 B.fr, .int .i64 B.un, .slice (some ⟨g6, 0, none⟩) (cn + 1) p6, .int .i64 B.pn, .int .i64 B.pd, .int .i64 B.fee, .slice (some ⟨bb, off, none⟩) pm pc] := by (repeat' (first | (with_reducible assumption) | (with_reducible refine Row.new' _ _ _ (by first | rfl | (simp; done) | omega)) | (with_reducible refine Row.alloc ?_ _) | (with_reducible refine Row.drew ?_) | (with_reducible refine Row.drewN ?_ _) | (with_reducible refine Row.step ?_ (by with_reducible assumption)) | (with_reducible refine Row.set2' ?_ _ _; first | exact ⟨_, _, by with_reducible assumption⟩ | exact ⟨_, _, Row.alloc (by with_reducible assumption) _⟩ | exact ⟨_, _, Row.alloc (Row.alloc (by with_reducible assumption) _) _⟩) | (with_reducible refine Row.other ?_ (by first | omega | (simp; done) | (simp; omega)) _)))
          have c_x_0_13 := R_x_13.cell 0 rfl
          have c_x_1_13 := R_x_13.cell 1 rfl
          have c_x_2_13 := R_x_13.cell 2 rfl
          have c_x_3_13 := R_x_13.cell 3 rfl
          have c_x_4_13 := R_x_13.cell 4 rfl
          have c_x_5_13 := R_x_13.cell 5 rfl
          have c_x_6_13 := R_x_13.cell 6 rfl
          have c_x_7_13 := R_x_13.cell 7 rfl
          have c_x_8_13 := R_x_13.cell 8 rfl
          have c_x_9_13 := R_x_13.cell 9 rfl
          have l_x_13 := R_x_13.lt
          have R_y_13 : Row w13 (gy) [.int .i64 B.id, .int .i64 B.kind, .int .i64 B.rooms, .int .i64 B.fr, .int .i64 B.un, .slice (some ⟨g9, 0, none⟩) (cn + 1) p9, .int .i64 B.pn, .int .i64 B.pd, .int .i64 B.fee, .slice (some ⟨bb, off, none⟩) pm pc] := by (repeat' (first | (with_reducible assumption) | (with_reducible refine Row.new' _ _ _ (by first | rfl | (simp; done) | omega)) | (with_reducible refine Row.alloc ?_ _) | (with_reducible refine Row.drew ?_) | (with_reducible refine Row.drewN ?_ _) | (with_reducible refine Row.step ?_ (by with_reducible assumption)) | (with_reducible refine Row.set2' ?_ _ _; first | exact ⟨_, _, by with_reducible assumption⟩ | exact ⟨_, _, Row.alloc (by with_reducible assumption) _⟩ | exact ⟨_, _, Row.alloc (Row.alloc (by with_reducible assumption) _) _⟩) | (with_reducible refine Row.other ?_ (by first | omega | (simp; done) | (simp; omega)) _)))
          have c_y_0_13 := R_y_13.cell 0 rfl
          have c_y_1_13 := R_y_13.cell 1 rfl
          have c_y_2_13 := R_y_13.cell 2 rfl
          have c_y_3_13 := R_y_13.cell 3 rfl
          have c_y_4_13 := R_y_13.cell 4 rfl
          have c_y_5_13 := R_y_13.cell 5 rfl
          have c_y_6_13 := R_y_13.cell 6 rfl
          have c_y_7_13 := R_y_13.cell 7 rfl
          have c_y_8_13 := R_y_13.cell 8 rfl
          have c_y_9_13 := R_y_13.cell 9 rfl
          have l_y_13 := R_y_13.lt
          have HB13 : Below w.heap.size w w13 := by (repeat' (first | (with_reducible exact Below.refl _ _) | (with_reducible assumption) | (with_reducible exact Bw.out (by with_reducible assumption)) | (with_reducible refine bw_alloc ?_ _) | (with_reducible refine bw_step ?_ (by with_reducible assumption)) | (with_reducible refine Below.alloc ?_ ?_ _) | (with_reducible refine Below.drew ?_) | (with_reducible refine below_drewN ?_ _) | (with_reducible refine Below.setCell ?_ ?_ _) | (with_reducible refine below_step ?_ (by with_reducible assumption) ?_) | (with_reducible exact Nat.le_refl _) | omega | (simp; omega) | (simp; done)))
          clear R_b_12 c_b_0_12 c_b_1_12 c_b_2_12 c_b_3_12 c_b_4_12 c_b_5_12 c_b_6_12 c_b_7_12 c_b_8_12 c_b_9_12 R_x_12 c_x_0_12 c_x_1_12 c_x_2_12 c_x_3_12 c_x_4_12 c_x_5_12 c_x_6_12 c_x_7_12 c_x_8_12 c_x_9_12 R_y_12 c_y_0_12 c_y_1_12 c_y_2_12 c_y_3_12 c_y_4_12 c_y_5_12 c_y_6_12 c_y_7_12 c_y_8_12 c_y_9_12 hb12 HB12
          have Z13 : CellAt w13 bb (off + j) (.int .i64 z) := by rw [← HZ.out]; exact (K0.out.picked.below HB13).cellOf hjp
          have Zc := Z13.out
          have e2 := HE2.out
          clear Z13
          go_wp2_with fail
          all_goals
            clear e2
            go_ret
            refine ⟨(by first | rfl | exact ret_bool (by first | rfl | (simp; done))), ?_⟩
            (repeat' (first | (with_reducible exact Below.refl _ _) | (with_reducible assumption) | (with_reducible exact Bw.out (by with_reducible assumption)) | (with_reducible refine bw_alloc ?_ _) | (with_reducible refine bw_step ?_ (by with_reducible assumption)) | (with_reducible refine Below.alloc ?_ ?_ _) | (with_reducible refine Below.drew ?_) | (with_reducible refine below_drewN ?_ _) | (with_reducible refine Below.setCell ?_ ?_ _) | (with_reducible refine below_step ?_ (by with_reducible assumption) ?_) | (with_reducible exact Nat.le_refl _) | omega | (simp; omega) | (simp; done)))
    · obtain ⟨c1, hc1⟩ : ∃ c1, cn = c1 + 1 := ⟨cn - 1, by omega⟩
      have HC1 := Lib.hid hc1
      obtain ⟨d, kn, kd, b2, off2, g1, _, _, hca, hbl2, cd, _, _⟩ := K.cuts.get (i := c1) (by omega)
      subst hca
      have D0 : CellAt w b2 (off2 + c1 * 3) (.int .i64 d) := cd
      have k1 : (0 : Int) < (cn : Int) := by omega
      have k2 : (0 : Int) ≤ (c1 : Int) := by omega
      have k3 : (c1 : Int) < (cn : Int) := by omega
      have k4 : (cn : Int) - 1 = (c1 : Int) := by omega
      have HK5 := Lib.hid (IntWalk.i64_in (c1 : Int) (by omega))
      clear hc1
      by_cases hdd : day ≤ d
      · clear K g1 cd
        go_enter Try.func5, Try.ntmps5
        go_wp2_with fail
        refine (head_any _).mono ?_
        rintro e w1 ⟨rfl, hb1⟩
        have R_b_1 : Row w1 (w.heap.size) [.int .i64 B.id, .int .i64 B.kind, .int .i64 B.rooms, .int .i64 B.fr, .int .i64 B.un, .slice (some ⟨b2, off2, none⟩) cn cc, .int .i64 B.pn, .int .i64 B.pd, .int .i64 B.fee, .slice (some ⟨bb, off, none⟩) pm pc] := by (repeat' (first | (with_reducible assumption) | (with_reducible refine Row.new' _ _ _ (by first | rfl | (simp; done) | omega)) | (with_reducible refine Row.alloc ?_ _) | (with_reducible refine Row.drew ?_) | (with_reducible refine Row.drewN ?_ _) | (with_reducible refine Row.step ?_ (by with_reducible assumption)) | (with_reducible refine Row.set2' ?_ _ _; first | exact ⟨_, _, by with_reducible assumption⟩ | exact ⟨_, _, Row.alloc (by with_reducible assumption) _⟩ | exact ⟨_, _, Row.alloc (Row.alloc (by with_reducible assumption) _) _⟩) | (with_reducible refine Row.other ?_ (by first | omega | (simp; done) | (simp; omega)) _)))
        have c_b_0_1 := R_b_1.cell 0 rfl
        have c_b_1_1 := R_b_1.cell 1 rfl
        have c_b_2_1 := R_b_1.cell 2 rfl
        have c_b_3_1 := R_b_1.cell 3 rfl
        have c_b_4_1 := R_b_1.cell 4 rfl
        have c_b_5_1 := R_b_1.cell 5 rfl
        have c_b_6_1 := R_b_1.cell 6 rfl
        have c_b_7_1 := R_b_1.cell 7 rfl
        have c_b_8_1 := R_b_1.cell 8 rfl
        have c_b_9_1 := R_b_1.cell 9 rfl
        have l_b_1 := R_b_1.lt
        have HB1 : Below w.heap.size w w1 := by (repeat' (first | (with_reducible exact Below.refl _ _) | (with_reducible assumption) | (with_reducible exact Bw.out (by with_reducible assumption)) | (with_reducible refine bw_alloc ?_ _) | (with_reducible refine bw_step ?_ (by with_reducible assumption)) | (with_reducible refine Below.alloc ?_ ?_ _) | (with_reducible refine Below.drew ?_) | (with_reducible refine below_drewN ?_ _) | (with_reducible refine Below.setCell ?_ ?_ _) | (with_reducible refine below_step ?_ (by with_reducible assumption) ?_) | (with_reducible exact Nat.le_refl _) | omega | (simp; omega) | (simp; done)))
        go_wp2_with fail
        refine (l_usable B day _ _ _ _ _ _ _ (K0.out.below (by (repeat' (first | (with_reducible exact Below.refl _ _) | (with_reducible assumption) | (with_reducible exact Bw.out (by with_reducible assumption)) | (with_reducible refine bw_alloc ?_ _) | (with_reducible refine bw_step ?_ (by with_reducible assumption)) | (with_reducible refine Below.alloc ?_ ?_ _) | (with_reducible refine Below.drew ?_) | (with_reducible refine below_drewN ?_ _) | (with_reducible refine Below.setCell ?_ ?_ _) | (with_reducible refine below_step ?_ (by with_reducible assumption) ?_) | (with_reducible exact Nat.le_refl _) | omega | (simp; omega) | (simp; done))))) true HU.out).mono ?_
        rintro e w2 ⟨rfl, hb2⟩
        have R_b_2 : Row w2 (w.heap.size) [.int .i64 B.id, .int .i64 B.kind, .int .i64 B.rooms, .int .i64 B.fr, .int .i64 B.un, .slice (some ⟨b2, off2, none⟩) cn cc, .int .i64 B.pn, .int .i64 B.pd, .int .i64 B.fee, .slice (some ⟨bb, off, none⟩) pm pc] := by (repeat' (first | (with_reducible assumption) | (with_reducible refine Row.new' _ _ _ (by first | rfl | (simp; done) | omega)) | (with_reducible refine Row.alloc ?_ _) | (with_reducible refine Row.drew ?_) | (with_reducible refine Row.drewN ?_ _) | (with_reducible refine Row.step ?_ (by with_reducible assumption)) | (with_reducible refine Row.set2' ?_ _ _; first | exact ⟨_, _, by with_reducible assumption⟩ | exact ⟨_, _, Row.alloc (by with_reducible assumption) _⟩ | exact ⟨_, _, Row.alloc (Row.alloc (by with_reducible assumption) _) _⟩) | (with_reducible refine Row.other ?_ (by first | omega | (simp; done) | (simp; omega)) _)))
        have c_b_0_2 := R_b_2.cell 0 rfl
        have c_b_1_2 := R_b_2.cell 1 rfl
        have c_b_2_2 := R_b_2.cell 2 rfl
        have c_b_3_2 := R_b_2.cell 3 rfl
        have c_b_4_2 := R_b_2.cell 4 rfl
        have c_b_5_2 := R_b_2.cell 5 rfl
        have c_b_6_2 := R_b_2.cell 6 rfl
        have c_b_7_2 := R_b_2.cell 7 rfl
        have c_b_8_2 := R_b_2.cell 8 rfl
        have c_b_9_2 := R_b_2.cell 9 rfl
        have l_b_2 := R_b_2.lt
        have HB2 : Below w.heap.size w w2 := by (repeat' (first | (with_reducible exact Below.refl _ _) | (with_reducible assumption) | (with_reducible exact Bw.out (by with_reducible assumption)) | (with_reducible refine bw_alloc ?_ _) | (with_reducible refine bw_step ?_ (by with_reducible assumption)) | (with_reducible refine Below.alloc ?_ ?_ _) | (with_reducible refine Below.drew ?_) | (with_reducible refine below_drewN ?_ _) | (with_reducible refine Below.setCell ?_ ?_ _) | (with_reducible refine below_step ?_ (by with_reducible assumption) ?_) | (with_reducible exact Nat.le_refl _) | omega | (simp; omega) | (simp; done)))
        clear R_b_1 c_b_0_1 c_b_1_1 c_b_2_1 c_b_3_1 c_b_4_1 c_b_5_1 c_b_6_1 c_b_7_1 c_b_8_1 c_b_9_1 hb1 HB1
        have D2 := (D0.step (show Below w.heap.size w w2 by (repeat' (first | (with_reducible exact Below.refl _ _) | (with_reducible assumption) | (with_reducible exact Bw.out (by with_reducible assumption)) | (with_reducible refine bw_alloc ?_ _) | (with_reducible refine bw_step ?_ (by with_reducible assumption)) | (with_reducible refine Below.alloc ?_ ?_ _) | (with_reducible refine Below.drew ?_) | (with_reducible refine below_drewN ?_ _) | (with_reducible refine Below.setCell ?_ ?_ _) | (with_reducible refine below_step ?_ (by with_reducible assumption) ?_) | (with_reducible exact Nat.le_refl _) | omega | (simp; omega) | (simp; done))))).out
        have k6 := HK5.out
        go_wp2_with fail
        clear k6 D2
        go_ret
        refine ⟨(by first | rfl | exact ret_bool (by first | rfl | (simp; done))), ?_⟩
        (repeat' (first | (with_reducible exact Below.refl _ _) | (with_reducible assumption) | (with_reducible exact Bw.out (by with_reducible assumption)) | (with_reducible refine bw_alloc ?_ _) | (with_reducible refine bw_step ?_ (by with_reducible assumption)) | (with_reducible refine Below.alloc ?_ ?_ _) | (with_reducible refine Below.drew ?_) | (with_reducible refine below_drewN ?_ _) | (with_reducible refine Below.setCell ?_ ?_ _) | (with_reducible refine below_step ?_ (by with_reducible assumption) ?_) | (with_reducible exact Nat.le_refl _) | omega | (simp; omega) | (simp; done)))
      · obtain ⟨⟨hva, hea⟩, hvn, hen⟩ := HNEW.out (fun i hi => by
          rw [HLC.out] at hi
          obtain rfl : i = c1 := by have := HC1.out; omega
          rw [g1.out]; omega)
        have HVA := Lib.hid hva
        have HEA := Lib.hid hea
        have HVN := Lib.hid hvn
        have HEN := Lib.hid hen
        have hdd2 : d < day := by omega
        clear hva hea hvn hen HNEW K g1 cd hdd
        go_enter Try.func5, Try.ntmps5
        go_wp2_with fail
        refine (head_any _).mono ?_
        rintro e w1 ⟨rfl, hb1⟩
        have R_b_1 : Row w1 (w.heap.size) [.int .i64 B.id, .int .i64 B.kind, .int .i64 B.rooms, .int .i64 B.fr, .int .i64 B.un, .slice (some ⟨b2, off2, none⟩) cn cc, .int .i64 B.pn, .int .i64 B.pd, .int .i64 B.fee, .slice (some ⟨bb, off, none⟩) pm pc] := by (repeat' (first | (with_reducible assumption) | (with_reducible refine Row.new' _ _ _ (by first | rfl | (simp; done) | omega)) | (with_reducible refine Row.alloc ?_ _) | (with_reducible refine Row.drew ?_) | (with_reducible refine Row.drewN ?_ _) | (with_reducible refine Row.step ?_ (by with_reducible assumption)) | (with_reducible refine Row.set2' ?_ _ _; first | exact ⟨_, _, by with_reducible assumption⟩ | exact ⟨_, _, Row.alloc (by with_reducible assumption) _⟩ | exact ⟨_, _, Row.alloc (Row.alloc (by with_reducible assumption) _) _⟩) | (with_reducible refine Row.other ?_ (by first | omega | (simp; done) | (simp; omega)) _)))
        have c_b_0_1 := R_b_1.cell 0 rfl
        have c_b_1_1 := R_b_1.cell 1 rfl
        have c_b_2_1 := R_b_1.cell 2 rfl
        have c_b_3_1 := R_b_1.cell 3 rfl
        have c_b_4_1 := R_b_1.cell 4 rfl
        have c_b_5_1 := R_b_1.cell 5 rfl
        have c_b_6_1 := R_b_1.cell 6 rfl
        have c_b_7_1 := R_b_1.cell 7 rfl
        have c_b_8_1 := R_b_1.cell 8 rfl
        have c_b_9_1 := R_b_1.cell 9 rfl
        have l_b_1 := R_b_1.lt
        have HB1 : Below w.heap.size w w1 := by (repeat' (first | (with_reducible exact Below.refl _ _) | (with_reducible assumption) | (with_reducible exact Bw.out (by with_reducible assumption)) | (with_reducible refine bw_alloc ?_ _) | (with_reducible refine bw_step ?_ (by with_reducible assumption)) | (with_reducible refine Below.alloc ?_ ?_ _) | (with_reducible refine Below.drew ?_) | (with_reducible refine below_drewN ?_ _) | (with_reducible refine Below.setCell ?_ ?_ _) | (with_reducible refine below_step ?_ (by with_reducible assumption) ?_) | (with_reducible exact Nat.le_refl _) | omega | (simp; omega) | (simp; done)))
        go_wp2_with fail
        refine (l_usable B day _ _ _ _ _ _ _ (K0.out.below (by (repeat' (first | (with_reducible exact Below.refl _ _) | (with_reducible assumption) | (with_reducible exact Bw.out (by with_reducible assumption)) | (with_reducible refine bw_alloc ?_ _) | (with_reducible refine bw_step ?_ (by with_reducible assumption)) | (with_reducible refine Below.alloc ?_ ?_ _) | (with_reducible refine Below.drew ?_) | (with_reducible refine below_drewN ?_ _) | (with_reducible refine Below.setCell ?_ ?_ _) | (with_reducible refine below_step ?_ (by with_reducible assumption) ?_) | (with_reducible exact Nat.le_refl _) | omega | (simp; omega) | (simp; done))))) true HU.out).mono ?_
        rintro e w2 ⟨rfl, hb2⟩
        have R_b_2 : Row w2 (w.heap.size) [.int .i64 B.id, .int .i64 B.kind, .int .i64 B.rooms, .int .i64 B.fr, .int .i64 B.un, .slice (some ⟨b2, off2, none⟩) cn cc, .int .i64 B.pn, .int .i64 B.pd, .int .i64 B.fee, .slice (some ⟨bb, off, none⟩) pm pc] := by (repeat' (first | (with_reducible assumption) | (with_reducible refine Row.new' _ _ _ (by first | rfl | (simp; done) | omega)) | (with_reducible refine Row.alloc ?_ _) | (with_reducible refine Row.drew ?_) | (with_reducible refine Row.drewN ?_ _) | (with_reducible refine Row.step ?_ (by with_reducible assumption)) | (with_reducible refine Row.set2' ?_ _ _; first | exact ⟨_, _, by with_reducible assumption⟩ | exact ⟨_, _, Row.alloc (by with_reducible assumption) _⟩ | exact ⟨_, _, Row.alloc (Row.alloc (by with_reducible assumption) _) _⟩) | (with_reducible refine Row.other ?_ (by first | omega | (simp; done) | (simp; omega)) _)))
        have c_b_0_2 := R_b_2.cell 0 rfl
        have c_b_1_2 := R_b_2.cell 1 rfl
        have c_b_2_2 := R_b_2.cell 2 rfl
        have c_b_3_2 := R_b_2.cell 3 rfl
        have c_b_4_2 := R_b_2.cell 4 rfl
        have c_b_5_2 := R_b_2.cell 5 rfl
        have c_b_6_2 := R_b_2.cell 6 rfl
        have c_b_7_2 := R_b_2.cell 7 rfl
        have c_b_8_2 := R_b_2.cell 8 rfl
        have c_b_9_2 := R_b_2.cell 9 rfl
        have l_b_2 := R_b_2.lt
        have HB2 : Below w.heap.size w w2 := by (repeat' (first | (with_reducible exact Below.refl _ _) | (with_reducible assumption) | (with_reducible exact Bw.out (by with_reducible assumption)) | (with_reducible refine bw_alloc ?_ _) | (with_reducible refine bw_step ?_ (by with_reducible assumption)) | (with_reducible refine Below.alloc ?_ ?_ _) | (with_reducible refine Below.drew ?_) | (with_reducible refine below_drewN ?_ _) | (with_reducible refine Below.setCell ?_ ?_ _) | (with_reducible refine below_step ?_ (by with_reducible assumption) ?_) | (with_reducible exact Nat.le_refl _) | omega | (simp; omega) | (simp; done)))
        clear R_b_1 c_b_0_1 c_b_1_1 c_b_2_1 c_b_3_1 c_b_4_1 c_b_5_1 c_b_6_1 c_b_7_1 c_b_8_1 c_b_9_1 hb1 HB1
        have D2 := (D0.step (show Below w.heap.size w w2 by (repeat' (first | (with_reducible exact Below.refl _ _) | (with_reducible assumption) | (with_reducible exact Bw.out (by with_reducible assumption)) | (with_reducible refine bw_alloc ?_ _) | (with_reducible refine bw_step ?_ (by with_reducible assumption)) | (with_reducible refine Below.alloc ?_ ?_ _) | (with_reducible refine Below.drew ?_) | (with_reducible refine below_drewN ?_ _) | (with_reducible refine Below.setCell ?_ ?_ _) | (with_reducible refine below_step ?_ (by with_reducible assumption) ?_) | (with_reducible exact Nat.le_refl _) | omega | (simp; omega) | (simp; done))))).out
        have k6 := HK5.out
        go_upto_region 4 with fail
        clear D2 k6
        go_cut [10, 11] (fun s0 s1 wx => s0 = .int .i64 (B.fr + j) ∧ s1 = .int .i64 T ∧ Bw w2.heap.size w2 wx)
        case first =>
          rcases hrc with ⟨hle, hTe⟩ | ⟨hle, hTe⟩
          · subst hTe
            go_wp2_with fail
            refine (l_night B q j _ _ _ _ _ _ _ o1 o2 o3 hq hj).mono ?_
            rintro e w3 ⟨rfl, hb3⟩
            have R_b_3 : Row w3 (w.heap.size) [.int .i64 B.id, .int .i64 B.kind, .int .i64 B.rooms, .int .i64 B.fr, .int .i64 B.un, .slice (some ⟨b2, off2, none⟩) cn cc, .int .i64 B.pn, .int .i64 B.pd, .int .i64 B.fee, .slice (some ⟨bb, off, none⟩) pm pc] := by (repeat' (first | (with_reducible assumption) | (with_reducible refine Row.new' _ _ _ (by first | rfl | (simp; done) | omega)) | (with_reducible refine Row.alloc ?_ _) | (with_reducible refine Row.drew ?_) | (with_reducible refine Row.drewN ?_ _) | (with_reducible refine Row.step ?_ (by with_reducible assumption)) | (with_reducible refine Row.set2' ?_ _ _; first | exact ⟨_, _, by with_reducible assumption⟩ | exact ⟨_, _, Row.alloc (by with_reducible assumption) _⟩ | exact ⟨_, _, Row.alloc (Row.alloc (by with_reducible assumption) _) _⟩) | (with_reducible refine Row.other ?_ (by first | omega | (simp; done) | (simp; omega)) _)))
            have c_b_0_3 := R_b_3.cell 0 rfl
            have c_b_1_3 := R_b_3.cell 1 rfl
            have c_b_2_3 := R_b_3.cell 2 rfl
            have c_b_3_3 := R_b_3.cell 3 rfl
            have c_b_4_3 := R_b_3.cell 4 rfl
            have c_b_5_3 := R_b_3.cell 5 rfl
            have c_b_6_3 := R_b_3.cell 6 rfl
            have c_b_7_3 := R_b_3.cell 7 rfl
            have c_b_8_3 := R_b_3.cell 8 rfl
            have c_b_9_3 := R_b_3.cell 9 rfl
            have l_b_3 := R_b_3.lt
            have HB3 : Below w.heap.size w w3 := by (repeat' (first | (with_reducible exact Below.refl _ _) | (with_reducible assumption) | (with_reducible exact Bw.out (by with_reducible assumption)) | (with_reducible refine bw_alloc ?_ _) | (with_reducible refine bw_step ?_ (by with_reducible assumption)) | (with_reducible refine Below.alloc ?_ ?_ _) | (with_reducible refine Below.drew ?_) | (with_reducible refine below_drewN ?_ _) | (with_reducible refine Below.setCell ?_ ?_ _) | (with_reducible refine below_step ?_ (by with_reducible assumption) ?_) | (with_reducible exact Nat.le_refl _) | omega | (simp; omega) | (simp; done)))
            clear R_b_2 c_b_0_2 c_b_1_2 c_b_2_2 c_b_3_2 c_b_4_2 c_b_5_2 c_b_6_2 c_b_7_2 c_b_8_2 c_b_9_2 hb2 HB2
            go_wp2_with fail
            go_meet
            exact ⟨rfl, rfl, by show Below _ _ _; (repeat' (first | (with_reducible exact Below.refl _ _) | (with_reducible assumption) | (with_reducible exact Bw.out (by with_reducible assumption)) | (with_reducible refine bw_alloc ?_ _) | (with_reducible refine bw_step ?_ (by with_reducible assumption)) | (with_reducible refine Below.alloc ?_ ?_ _) | (with_reducible refine Below.drew ?_) | (with_reducible refine below_drewN ?_ _) | (with_reducible refine Below.setCell ?_ ?_ _) | (with_reducible refine below_step ?_ (by with_reducible assumption) ?_) | (with_reducible exact Nat.le_refl _) | omega | (simp; omega) | (simp; done)))⟩
          · subst hTe
            go_wp2_with fail
            refine (l_night B q j _ _ _ _ _ _ _ o1 o2 o3 hq hj).mono ?_
            rintro e w3 ⟨rfl, hb3⟩
            have R_b_3 : Row w3 (w.heap.size) [.int .i64 B.id, .int .i64 B.kind, .int .i64 B.rooms, .int .i64 B.fr, .int .i64 B.un, .slice (some ⟨b2, off2, none⟩) cn cc, .int .i64 B.pn, .int .i64 B.pd, .int .i64 B.fee, .slice (some ⟨bb, off, none⟩) pm pc] := by (repeat' (first | (with_reducible assumption) | (with_reducible refine Row.new' _ _ _ (by first | rfl | (simp; done) | omega)) | (with_reducible refine Row.alloc ?_ _) | (with_reducible refine Row.drew ?_) | (with_reducible refine Row.drewN ?_ _) | (with_reducible refine Row.step ?_ (by with_reducible assumption)) | (with_reducible refine Row.set2' ?_ _ _; first | exact ⟨_, _, by with_reducible assumption⟩ | exact ⟨_, _, Row.alloc (by with_reducible assumption) _⟩ | exact ⟨_, _, Row.alloc (Row.alloc (by with_reducible assumption) _) _⟩) | (with_reducible refine Row.other ?_ (by first | omega | (simp; done) | (simp; omega)) _)))
            have c_b_0_3 := R_b_3.cell 0 rfl
            have c_b_1_3 := R_b_3.cell 1 rfl
            have c_b_2_3 := R_b_3.cell 2 rfl
            have c_b_3_3 := R_b_3.cell 3 rfl
            have c_b_4_3 := R_b_3.cell 4 rfl
            have c_b_5_3 := R_b_3.cell 5 rfl
            have c_b_6_3 := R_b_3.cell 6 rfl
            have c_b_7_3 := R_b_3.cell 7 rfl
            have c_b_8_3 := R_b_3.cell 8 rfl
            have c_b_9_3 := R_b_3.cell 9 rfl
            have l_b_3 := R_b_3.lt
            have HB3 : Below w.heap.size w w3 := by (repeat' (first | (with_reducible exact Below.refl _ _) | (with_reducible assumption) | (with_reducible exact Bw.out (by with_reducible assumption)) | (with_reducible refine bw_alloc ?_ _) | (with_reducible refine bw_step ?_ (by with_reducible assumption)) | (with_reducible refine Below.alloc ?_ ?_ _) | (with_reducible refine Below.drew ?_) | (with_reducible refine below_drewN ?_ _) | (with_reducible refine Below.setCell ?_ ?_ _) | (with_reducible refine below_step ?_ (by with_reducible assumption) ?_) | (with_reducible exact Nat.le_refl _) | omega | (simp; omega) | (simp; done)))
            clear R_b_2 c_b_0_2 c_b_1_2 c_b_2_2 c_b_3_2 c_b_4_2 c_b_5_2 c_b_6_2 c_b_7_2 c_b_8_2 c_b_9_2 hb2 HB2
            go_wp2_with fail
            go_meet
            exact ⟨rfl, rfl, by show Below _ _ _; (repeat' (first | (with_reducible exact Below.refl _ _) | (with_reducible assumption) | (with_reducible exact Bw.out (by with_reducible assumption)) | (with_reducible refine bw_alloc ?_ _) | (with_reducible refine bw_step ?_ (by with_reducible assumption)) | (with_reducible refine Below.alloc ?_ ?_ _) | (with_reducible refine Below.drew ?_) | (with_reducible refine below_drewN ?_ _) | (with_reducible refine Below.setCell ?_ ?_ _) | (with_reducible refine below_step ?_ (by with_reducible assumption) ?_) | (with_reducible exact Nat.le_refl _) | omega | (simp; omega) | (simp; done)))⟩
        case' rest =>
          obtain ⟨rfl, rfl, hb3⟩ := hcut
          obtain ⟨w3, hw3⟩ : ∃ wd, wd = wc := ⟨_, rfl⟩
          subst hw3
          replace hb3 := hb3.out
          have R_b_3 : Row w3 (w.heap.size) [.int .i64 B.id, .int .i64 B.kind, .int .i64 B.rooms, .int .i64 B.fr, .int .i64 B.un, .slice (some ⟨b2, off2, none⟩) cn cc, .int .i64 B.pn, .int .i64 B.pd, .int .i64 B.fee, .slice (some ⟨bb, off, none⟩) pm pc] := by (repeat' (first | (with_reducible assumption) | (with_reducible refine Row.new' _ _ _ (by first | rfl | (simp; done) | omega)) | (with_reducible refine Row.alloc ?_ _) | (with_reducible refine Row.drew ?_) | (with_reducible refine Row.drewN ?_ _) | (with_reducible refine Row.step ?_ (by with_reducible assumption)) | (with_reducible refine Row.set2' ?_ _ _; first | exact ⟨_, _, by with_reducible assumption⟩ | exact ⟨_, _, Row.alloc (by with_reducible assumption) _⟩ | exact ⟨_, _, Row.alloc (Row.alloc (by with_reducible assumption) _) _⟩) | (with_reducible refine Row.other ?_ (by first | omega | (simp; done) | (simp; omega)) _)))
          have c_b_0_3 := R_b_3.cell 0 rfl
          have c_b_1_3 := R_b_3.cell 1 rfl
          have c_b_2_3 := R_b_3.cell 2 rfl
          have c_b_3_3 := R_b_3.cell 3 rfl
          have c_b_4_3 := R_b_3.cell 4 rfl
          have c_b_5_3 := R_b_3.cell 5 rfl
          have c_b_6_3 := R_b_3.cell 6 rfl
          have c_b_7_3 := R_b_3.cell 7 rfl
          have c_b_8_3 := R_b_3.cell 8 rfl
          have c_b_9_3 := R_b_3.cell 9 rfl
          have l_b_3 := R_b_3.lt
          have HB3 : Below w.heap.size w w3 := by (repeat' (first | (with_reducible exact Below.refl _ _) | (with_reducible assumption) | (with_reducible exact Bw.out (by with_reducible assumption)) | (with_reducible refine bw_alloc ?_ _) | (with_reducible refine bw_step ?_ (by with_reducible assumption)) | (with_reducible refine Below.alloc ?_ ?_ _) | (with_reducible refine Below.drew ?_) | (with_reducible refine below_drewN ?_ _) | (with_reducible refine Below.setCell ?_ ?_ _) | (with_reducible refine below_step ?_ (by with_reducible assumption) ?_) | (with_reducible exact Nat.le_refl _) | omega | (simp; omega) | (simp; done)))
          clear R_b_2 c_b_0_2 c_b_1_2 c_b_2_2 c_b_3_2 c_b_4_2 c_b_5_2 c_b_6_2 c_b_7_2 c_b_8_2 c_b_9_2 hb2 HB2
          clear hrc
          go_wp2_with fail
          have HKS : Hid (∀ w', Below w3.heap.size w3 w' → w'.cell? ⟨w.heap.size, 0, none⟩ = some (.int .i64 B.id) ∧ w'.cell? ⟨w.heap.size, 1, none⟩ = some (.int .i64 B.kind) ∧ w'.cell? ⟨w.heap.size, 2, none⟩ = some (.int .i64 B.rooms) ∧ w'.cell? ⟨w.heap.size, 3, none⟩ = some (.int .i64 B.fr) ∧ w'.cell? ⟨w.heap.size, 4, none⟩ = some (.int .i64 B.un) ∧ w'.cell? ⟨w.heap.size, 5, none⟩ = some (.slice (some ⟨b2, off2, none⟩) cn cc) ∧ w'.cell? ⟨w.heap.size, 6, none⟩ = some (.int .i64 B.pn) ∧ w'.cell? ⟨w.heap.size, 7, none⟩ = some (.int .i64 B.pd) ∧ w'.cell? ⟨w.heap.size, 8, none⟩ = some (.int .i64 B.fee) ∧ w'.cell? ⟨w.heap.size, 9, none⟩ = some (.slice (some ⟨bb, off, none⟩) pm pc)) := fun w' h => ⟨(R_b_3.step h).cell 0 rfl, (R_b_3.step h).cell 1 rfl, (R_b_3.step h).cell 2 rfl, (R_b_3.step h).cell 3 rfl, (R_b_3.step h).cell 4 rfl, (R_b_3.step h).cell 5 rfl, (R_b_3.step h).cell 6 rfl, (R_b_3.step h).cell 7 rfl, (R_b_3.step h).cell 8 rfl, (R_b_3.step h).cell 9 rfl⟩
          go_cut [12, 13] (fun s0 s1 wx => ∃ gx gy : Nat, s0 = .pointer (some ⟨gx, 0, none⟩) ∧ s1 = .pointer (some ⟨gy, 0, none⟩) ∧ gx ≠ gy ∧ w3.heap.size ≤ gx ∧ w3.heap.size ≤ gy ∧ Row wx gx [.int .i64 B.id, .int .i64 B.kind, .int .i64 B.rooms, .int .i64 B.fr, .int .i64 B.un, .slice (some ⟨b2, off2, none⟩) cn cc, .int .i64 B.pn, .int .i64 B.pd, .int .i64 B.fee, .slice (some ⟨bb, off, none⟩) pm pc] ∧ Row wx gy [.int .i64 B.id, .int .i64 B.kind, .int .i64 B.rooms, .int .i64 B.fr, .int .i64 B.un, .slice (some ⟨b2, off2, none⟩) cn cc, .int .i64 B.pn, .int .i64 B.pd, .int .i64 B.fee, .slice (some ⟨bb, off, none⟩) pm pc] ∧ Bw w3.heap.size w3 wx)
          case first =>
            refine AnyJ.beginP (fun w' : World => w'.cell? ⟨w.heap.size, 0, none⟩ = some (.int .i64 B.id) ∧ w'.cell? ⟨w.heap.size, 1, none⟩ = some (.int .i64 B.kind) ∧ w'.cell? ⟨w.heap.size, 2, none⟩ = some (.int .i64 B.rooms) ∧ w'.cell? ⟨w.heap.size, 3, none⟩ = some (.int .i64 B.fr) ∧ w'.cell? ⟨w.heap.size, 4, none⟩ = some (.int .i64 B.un) ∧ w'.cell? ⟨w.heap.size, 5, none⟩ = some (.slice (some ⟨b2, off2, none⟩) cn cc) ∧ w'.cell? ⟨w.heap.size, 6, none⟩ = some (.int .i64 B.pn) ∧ w'.cell? ⟨w.heap.size, 7, none⟩ = some (.int .i64 B.pd) ∧ w'.cell? ⟨w.heap.size, 8, none⟩ = some (.int .i64 B.fee) ∧ w'.cell? ⟨w.heap.size, 9, none⟩ = some (.slice (some ⟨bb, off, none⟩) pm pc)) (fun _ => true) (by kernel_rfl) (HKS.out _ (by (repeat' (first | (with_reducible exact Below.refl _ _) | (with_reducible assumption) | (with_reducible exact Bw.out (by with_reducible assumption)) | (with_reducible refine bw_alloc ?_ _) | (with_reducible refine bw_step ?_ (by with_reducible assumption)) | (with_reducible refine Below.alloc ?_ ?_ _) | (with_reducible refine Below.drew ?_) | (with_reducible refine below_drewN ?_ _) | (with_reducible refine Below.setCell ?_ ?_ _) | (with_reducible refine below_step ?_ (by with_reducible assumption) ?_) | (with_reducible exact Nat.le_refl _) | omega | (simp; omega) | (simp; done))))) (fun hS => ?_)
            refine AnyJ.takeD (i := 0) (d := some 59) (v := ?_) rfl (by kernel_rfl) (by kernel_rfl) (by kernel_rfl) (by kernel_rfl) (by kernel_rfl) (fun _ _ _ h => h) (Or.inl ⟨by kernel_rfl, ?_⟩) hS ?_
            rotate_left
            · intro w' hS
              obtain ⟨sF0, sF1, sF2, sF3, sF4, sF5, sF6, sF7, sF8, sF9⟩ := hS
              go_simp
              try with_reducible rfl
            refine AnyJ.takeD (i := 1) (d := some 60) (v := ?_) rfl (by kernel_rfl) (by kernel_rfl) (by kernel_rfl) (by kernel_rfl) (by kernel_rfl) (fun _ _ _ h => h) (Or.inl ⟨by kernel_rfl, ?_⟩) hS ?_
            rotate_left
            · intro w' hS
              obtain ⟨sF0, sF1, sF2, sF3, sF4, sF5, sF6, sF7, sF8, sF9⟩ := hS
              go_simp
              try with_reducible rfl
            refine AnyJ.two (i := 2) (j := 3) (by kernel_rfl) rfl rfl (fun Kz hKz => ?_) (fun Kz hKz => ?_)
            · go_simp
              refine hKz _ _ (fun _ => HKS.out _ (by (repeat' (first | (with_reducible exact Below.refl _ _) | (with_reducible assumption) | (with_reducible exact Bw.out (by with_reducible assumption)) | (with_reducible refine bw_alloc ?_ _) | (with_reducible refine bw_step ?_ (by with_reducible assumption)) | (with_reducible refine Below.alloc ?_ ?_ _) | (with_reducible refine Below.drew ?_) | (with_reducible refine below_drewN ?_ _) | (with_reducible refine Below.setCell ?_ ?_ _) | (with_reducible refine below_step ?_ (by with_reducible assumption) ?_) | (with_reducible exact Nat.le_refl _) | omega | (simp; omega) | (simp; done))))) ?_
              clear hKz Kz
              refine AnyJ.one (i := 3) (by kernel_rfl) rfl (fun Kz hKz => ?_)
              go_simp
              refine hKz _ _ (fun _ => HKS.out _ (by (repeat' (first | (with_reducible exact Below.refl _ _) | (with_reducible assumption) | (with_reducible exact Bw.out (by with_reducible assumption)) | (with_reducible refine bw_alloc ?_ _) | (with_reducible refine bw_step ?_ (by with_reducible assumption)) | (with_reducible refine Below.alloc ?_ ?_ _) | (with_reducible refine Below.drew ?_) | (with_reducible refine below_drewN ?_ _) | (with_reducible refine Below.setCell ?_ ?_ _) | (with_reducible refine below_step ?_ (by with_reducible assumption) ?_) | (with_reducible exact Nat.le_refl _) | omega | (simp; omega) | (simp; done))))) ?_
              clear hKz Kz
              generalize hwA : ((w3.alloc _).alloc _).drew = wA
              have RA : Row wA w3.heap.size [.int .i64 0, .int .i64 0, .int .i64 0, .int .i64 0, .int .i64 0, .slice none 0 0, .int .i64 0, .int .i64 0, .int .i64 0, .slice none 0 0] := by rw [← hwA]; exact (Row.new' w3 [.int .i64 0, .int .i64 0, .int .i64 0, .int .i64 0, .int .i64 0, .slice none 0 0, .int .i64 0, .int .i64 0, .int .i64 0, .slice none 0 0] 29 rfl).alloc _
              have RB : Row wA (w3.heap.size + 1) [.int .i64 0, .int .i64 0, .int .i64 0, .int .i64 0, .int .i64 0, .slice none 0 0, .int .i64 0, .int .i64 0, .int .i64 0, .slice none 0 0] := by rw [← hwA]; exact Row.new' _ [.int .i64 0, .int .i64 0, .int .i64 0, .int .i64 0, .int .i64 0, .slice none 0 0, .int .i64 0, .int .i64 0, .int .i64 0, .slice none 0 0] 29 (by simp)
              have HBA : Below w3.heap.size w3 wA := by rw [← hwA]; (repeat' (first | (with_reducible exact Below.refl _ _) | (with_reducible assumption) | (with_reducible exact Bw.out (by with_reducible assumption)) | (with_reducible refine bw_alloc ?_ _) | (with_reducible refine bw_step ?_ (by with_reducible assumption)) | (with_reducible refine Below.alloc ?_ ?_ _) | (with_reducible refine Below.drew ?_) | (with_reducible refine below_drewN ?_ _) | (with_reducible refine Below.setCell ?_ ?_ _) | (with_reducible refine below_step ?_ (by with_reducible assumption) ?_) | (with_reducible exact Nat.le_refl _) | omega | (simp; omega) | (simp; done)))
              clear hwA
              have rac0 := RA.cell 0 rfl
              have raz0 := RA.frozen 0
              have rac1 := RA.cell 1 rfl
              have raz1 := RA.frozen 1
              have rac2 := RA.cell 2 rfl
              have raz2 := RA.frozen 2
              have rac3 := RA.cell 3 rfl
              have raz3 := RA.frozen 3
              have rac4 := RA.cell 4 rfl
              have raz4 := RA.frozen 4
              have rac5 := RA.cell 5 rfl
              have raz5 := RA.frozen 5
              have rac6 := RA.cell 6 rfl
              have raz6 := RA.frozen 6
              have rac7 := RA.cell 7 rfl
              have raz7 := RA.frozen 7
              have rac8 := RA.cell 8 rfl
              have raz8 := RA.frozen 8
              have rac9 := RA.cell 9 rfl
              have raz9 := RA.frozen 9
              have ral := RA.lt
              have rbc0 := RB.cell 0 rfl
              have rbz0 := RB.frozen 0
              have rbc1 := RB.cell 1 rfl
              have rbz1 := RB.frozen 1
              have rbc2 := RB.cell 2 rfl
              have rbz2 := RB.frozen 2
              have rbc3 := RB.cell 3 rfl
              have rbz3 := RB.frozen 3
              have rbc4 := RB.cell 4 rfl
              have rbz4 := RB.frozen 4
              have rbc5 := RB.cell 5 rfl
              have rbz5 := RB.frozen 5
              have rbc6 := RB.cell 6 rfl
              have rbz6 := RB.frozen 6
              have rbc7 := RB.cell 7 rfl
              have rbz7 := RB.frozen 7
              have rbc8 := RB.cell 8 rfl
              have rbz8 := RB.frozen 8
              have rbc9 := RB.cell 9 rfl
              have rbz9 := RB.frozen 9
              have rbl := RB.lt
              refine AnyJ.one (i := 4) (by kernel_rfl) rfl (fun Kz hKz => ?_)
              go_simp
              obtain ⟨wB, hwB, R1, ho1, hb1⟩ := RA.put10 (.int .i64 B.id) (.int .i64 B.kind) (.int .i64 B.rooms) (.int .i64 B.fr) (.int .i64 B.un) (.slice (some ⟨b2, off2, none⟩) cn cc) (.int .i64 B.pn) (.int .i64 B.pd) (.int .i64 B.fee) (.slice (some ⟨bb, off, none⟩) pm pc)
              rw [hwB]
              have R2 := RB.of_block (ho1 _ (by simp))
              have HBB := hb1 _ _ (by simp) HBA
              refine hKz _ _ (fun _ => HKS.out _ HBB) ?_
              clear hKz Kz hwB rac0 raz0 rac1 raz1 rac2 raz2 rac3 raz3 rac4 raz4 rac5 raz5 rac6 raz6 rac7 raz7 rac8 raz8 rac9 raz9 rbc0 rbz0 rbc1 rbz1 rbc2 rbz2 rbc3 rbz3 rbc4 rbz4 rbc5 rbz5 rbc6 rbz6 rbc7 rbz7 rbc8 rbz8 rbc9 rbz9 ral rbl RA RB ho1 hb1 HBA
              have rbc0 := R2.cell 0 rfl
              have rbz0 := R2.frozen 0
              have rbc1 := R2.cell 1 rfl
              have rbz1 := R2.frozen 1
              have rbc2 := R2.cell 2 rfl
              have rbz2 := R2.frozen 2
              have rbc3 := R2.cell 3 rfl
              have rbz3 := R2.frozen 3
              have rbc4 := R2.cell 4 rfl
              have rbz4 := R2.frozen 4
              have rbc5 := R2.cell 5 rfl
              have rbz5 := R2.frozen 5
              have rbc6 := R2.cell 6 rfl
              have rbz6 := R2.frozen 6
              have rbc7 := R2.cell 7 rfl
              have rbz7 := R2.frozen 7
              have rbc8 := R2.cell 8 rfl
              have rbz8 := R2.frozen 8
              have rbc9 := R2.cell 9 rfl
              have rbz9 := R2.frozen 9
              have rbl := R2.lt
              refine AnyJ.one (i := 5) (by kernel_rfl) rfl (fun Kz hKz => ?_)
              go_simp
              obtain ⟨wC, hwC, R2', ho2, hb2⟩ := R2.put10 (.int .i64 B.id) (.int .i64 B.kind) (.int .i64 B.rooms) (.int .i64 B.fr) (.int .i64 B.un) (.slice (some ⟨b2, off2, none⟩) cn cc) (.int .i64 B.pn) (.int .i64 B.pd) (.int .i64 B.fee) (.slice (some ⟨bb, off, none⟩) pm pc)
              rw [hwC]
              have R1' := R1.of_block (ho2 _ (by simp))
              have HBC := hb2 _ _ (by simp) HBB
              refine hKz _ _ (fun _ => HKS.out _ HBC) ?_
              clear hKz Kz hwC rbc0 rbz0 rbc1 rbz1 rbc2 rbz2 rbc3 rbz3 rbc4 rbz4 rbc5 rbz5 rbc6 rbz6 rbc7 rbz7 rbc8 rbz8 rbc9 rbz9 rbl R1 R2 ho2 hb2 HBB
              refine AnyJ.done (by kernel_rfl) ?_ _
              try simp only [Act.put, List.setIfInBounds_toArray, List.set_cons_zero, List.set_cons_succ]
              go_wp2_with fail
              go_meet
              exact ⟨w3.heap.size, (w3.heap.size + 1), rfl, rfl, by omega, by omega, by omega, R1', R2', HBC⟩
            · go_simp
              refine hKz _ _ (fun _ => HKS.out _ (by (repeat' (first | (with_reducible exact Below.refl _ _) | (with_reducible assumption) | (with_reducible exact Bw.out (by with_reducible assumption)) | (with_reducible refine bw_alloc ?_ _) | (with_reducible refine bw_step ?_ (by with_reducible assumption)) | (with_reducible refine Below.alloc ?_ ?_ _) | (with_reducible refine Below.drew ?_) | (with_reducible refine below_drewN ?_ _) | (with_reducible refine Below.setCell ?_ ?_ _) | (with_reducible refine below_step ?_ (by with_reducible assumption) ?_) | (with_reducible exact Nat.le_refl _) | omega | (simp; omega) | (simp; done))))) ?_
              clear hKz Kz
              refine AnyJ.one (i := 2) (by kernel_rfl) rfl (fun Kz hKz => ?_)
              go_simp
              refine hKz _ _ (fun _ => HKS.out _ (by (repeat' (first | (with_reducible exact Below.refl _ _) | (with_reducible assumption) | (with_reducible exact Bw.out (by with_reducible assumption)) | (with_reducible refine bw_alloc ?_ _) | (with_reducible refine bw_step ?_ (by with_reducible assumption)) | (with_reducible refine Below.alloc ?_ ?_ _) | (with_reducible refine Below.drew ?_) | (with_reducible refine below_drewN ?_ _) | (with_reducible refine Below.setCell ?_ ?_ _) | (with_reducible refine below_step ?_ (by with_reducible assumption) ?_) | (with_reducible exact Nat.le_refl _) | omega | (simp; omega) | (simp; done))))) ?_
              clear hKz Kz
              generalize hwA : ((w3.alloc _).alloc _).drew = wA
              have RA : Row wA w3.heap.size [.int .i64 0, .int .i64 0, .int .i64 0, .int .i64 0, .int .i64 0, .slice none 0 0, .int .i64 0, .int .i64 0, .int .i64 0, .slice none 0 0] := by rw [← hwA]; exact (Row.new' w3 [.int .i64 0, .int .i64 0, .int .i64 0, .int .i64 0, .int .i64 0, .slice none 0 0, .int .i64 0, .int .i64 0, .int .i64 0, .slice none 0 0] 29 rfl).alloc _
              have RB : Row wA (w3.heap.size + 1) [.int .i64 0, .int .i64 0, .int .i64 0, .int .i64 0, .int .i64 0, .slice none 0 0, .int .i64 0, .int .i64 0, .int .i64 0, .slice none 0 0] := by rw [← hwA]; exact Row.new' _ [.int .i64 0, .int .i64 0, .int .i64 0, .int .i64 0, .int .i64 0, .slice none 0 0, .int .i64 0, .int .i64 0, .int .i64 0, .slice none 0 0] 29 (by simp)
              have HBA : Below w3.heap.size w3 wA := by rw [← hwA]; (repeat' (first | (with_reducible exact Below.refl _ _) | (with_reducible assumption) | (with_reducible exact Bw.out (by with_reducible assumption)) | (with_reducible refine bw_alloc ?_ _) | (with_reducible refine bw_step ?_ (by with_reducible assumption)) | (with_reducible refine Below.alloc ?_ ?_ _) | (with_reducible refine Below.drew ?_) | (with_reducible refine below_drewN ?_ _) | (with_reducible refine Below.setCell ?_ ?_ _) | (with_reducible refine below_step ?_ (by with_reducible assumption) ?_) | (with_reducible exact Nat.le_refl _) | omega | (simp; omega) | (simp; done)))
              clear hwA
              have rac0 := RA.cell 0 rfl
              have raz0 := RA.frozen 0
              have rac1 := RA.cell 1 rfl
              have raz1 := RA.frozen 1
              have rac2 := RA.cell 2 rfl
              have raz2 := RA.frozen 2
              have rac3 := RA.cell 3 rfl
              have raz3 := RA.frozen 3
              have rac4 := RA.cell 4 rfl
              have raz4 := RA.frozen 4
              have rac5 := RA.cell 5 rfl
              have raz5 := RA.frozen 5
              have rac6 := RA.cell 6 rfl
              have raz6 := RA.frozen 6
              have rac7 := RA.cell 7 rfl
              have raz7 := RA.frozen 7
              have rac8 := RA.cell 8 rfl
              have raz8 := RA.frozen 8
              have rac9 := RA.cell 9 rfl
              have raz9 := RA.frozen 9
              have ral := RA.lt
              have rbc0 := RB.cell 0 rfl
              have rbz0 := RB.frozen 0
              have rbc1 := RB.cell 1 rfl
              have rbz1 := RB.frozen 1
              have rbc2 := RB.cell 2 rfl
              have rbz2 := RB.frozen 2
              have rbc3 := RB.cell 3 rfl
              have rbz3 := RB.frozen 3
              have rbc4 := RB.cell 4 rfl
              have rbz4 := RB.frozen 4
              have rbc5 := RB.cell 5 rfl
              have rbz5 := RB.frozen 5
              have rbc6 := RB.cell 6 rfl
              have rbz6 := RB.frozen 6
              have rbc7 := RB.cell 7 rfl
              have rbz7 := RB.frozen 7
              have rbc8 := RB.cell 8 rfl
              have rbz8 := RB.frozen 8
              have rbc9 := RB.cell 9 rfl
              have rbz9 := RB.frozen 9
              have rbl := RB.lt
              refine AnyJ.one (i := 4) (by kernel_rfl) rfl (fun Kz hKz => ?_)
              go_simp
              obtain ⟨wB, hwB, R1, ho1, hb1⟩ := RB.put10 (.int .i64 B.id) (.int .i64 B.kind) (.int .i64 B.rooms) (.int .i64 B.fr) (.int .i64 B.un) (.slice (some ⟨b2, off2, none⟩) cn cc) (.int .i64 B.pn) (.int .i64 B.pd) (.int .i64 B.fee) (.slice (some ⟨bb, off, none⟩) pm pc)
              rw [hwB]
              have R2 := RA.of_block (ho1 _ (by simp))
              have HBB := hb1 _ _ (by simp) HBA
              refine hKz _ _ (fun _ => HKS.out _ HBB) ?_
              clear hKz Kz hwB rac0 raz0 rac1 raz1 rac2 raz2 rac3 raz3 rac4 raz4 rac5 raz5 rac6 raz6 rac7 raz7 rac8 raz8 rac9 raz9 rbc0 rbz0 rbc1 rbz1 rbc2 rbz2 rbc3 rbz3 rbc4 rbz4 rbc5 rbz5 rbc6 rbz6 rbc7 rbz7 rbc8 rbz8 rbc9 rbz9 ral rbl RA RB ho1 hb1 HBA
              have rbc0 := R2.cell 0 rfl
              have rbz0 := R2.frozen 0
              have rbc1 := R2.cell 1 rfl
              have rbz1 := R2.frozen 1
              have rbc2 := R2.cell 2 rfl
              have rbz2 := R2.frozen 2
              have rbc3 := R2.cell 3 rfl
              have rbz3 := R2.frozen 3
              have rbc4 := R2.cell 4 rfl
              have rbz4 := R2.frozen 4
              have rbc5 := R2.cell 5 rfl
              have rbz5 := R2.frozen 5
              have rbc6 := R2.cell 6 rfl
              have rbz6 := R2.frozen 6
              have rbc7 := R2.cell 7 rfl
              have rbz7 := R2.frozen 7
              have rbc8 := R2.cell 8 rfl
              have rbz8 := R2.frozen 8
              have rbc9 := R2.cell 9 rfl
              have rbz9 := R2.frozen 9
              have rbl := R2.lt
              refine AnyJ.one (i := 5) (by kernel_rfl) rfl (fun Kz hKz => ?_)
              go_simp
              obtain ⟨wC, hwC, R2', ho2, hb2⟩ := R2.put10 (.int .i64 B.id) (.int .i64 B.kind) (.int .i64 B.rooms) (.int .i64 B.fr) (.int .i64 B.un) (.slice (some ⟨b2, off2, none⟩) cn cc) (.int .i64 B.pn) (.int .i64 B.pd) (.int .i64 B.fee) (.slice (some ⟨bb, off, none⟩) pm pc)
              rw [hwC]
              have R1' := R1.of_block (ho2 _ (by simp))
              have HBC := hb2 _ _ (by simp) HBB
              refine hKz _ _ (fun _ => HKS.out _ HBC) ?_
              clear hKz Kz hwC rbc0 rbz0 rbc1 rbz1 rbc2 rbz2 rbc3 rbz3 rbc4 rbz4 rbc5 rbz5 rbc6 rbz6 rbc7 rbz7 rbc8 rbz8 rbc9 rbz9 rbl R1 R2 ho2 hb2 HBB
              refine AnyJ.done (by kernel_rfl) ?_ _
              try simp only [Act.put, List.setIfInBounds_toArray, List.set_cons_zero, List.set_cons_succ]
              go_wp2_with fail
              go_meet
              exact ⟨(w3.heap.size + 1), w3.heap.size, rfl, rfl, by omega, by omega, by omega, R1', R2', HBC⟩
          case' rest =>
            obtain ⟨gx, gy, rfl, rfl, hxy, hgx, hgy, RX4, RY4, hb4⟩ := hcut
            obtain ⟨w4, hw4⟩ : ∃ wd, wd = wc := ⟨_, rfl⟩
            subst hw4
            replace hb4 := hb4.out
            clear HKS
            have R_b_4 : Row w4 (w.heap.size) [.int .i64 B.id, .int .i64 B.kind, .int .i64 B.rooms, .int .i64 B.fr, .int .i64 B.un, .slice (some ⟨b2, off2, none⟩) cn cc, .int .i64 B.pn, .int .i64 B.pd, .int .i64 B.fee, .slice (some ⟨bb, off, none⟩) pm pc] := by (repeat' (first | (with_reducible assumption) | (with_reducible refine Row.new' _ _ _ (by first | rfl | (simp; done) | omega)) | (with_reducible refine Row.alloc ?_ _) | (with_reducible refine Row.drew ?_) | (with_reducible refine Row.drewN ?_ _) | (with_reducible refine Row.step ?_ (by with_reducible assumption)) | (with_reducible refine Row.set2' ?_ _ _; first | exact ⟨_, _, by with_reducible assumption⟩ | exact ⟨_, _, Row.alloc (by with_reducible assumption) _⟩ | exact ⟨_, _, Row.alloc (Row.alloc (by with_reducible assumption) _) _⟩) | (with_reducible refine Row.other ?_ (by first | omega | (simp; done) | (simp; omega)) _)))
            have c_b_0_4 := R_b_4.cell 0 rfl
            have c_b_1_4 := R_b_4.cell 1 rfl
            have c_b_2_4 := R_b_4.cell 2 rfl
            have c_b_3_4 := R_b_4.cell 3 rfl
            have c_b_4_4 := R_b_4.cell 4 rfl
            have c_b_5_4 := R_b_4.cell 5 rfl
            have c_b_6_4 := R_b_4.cell 6 rfl
            have c_b_7_4 := R_b_4.cell 7 rfl
            have c_b_8_4 := R_b_4.cell 8 rfl
            have c_b_9_4 := R_b_4.cell 9 rfl
            have l_b_4 := R_b_4.lt
            have R_x_4 : Row w4 (gx) [.int .i64 B.id, .int .i64 B.kind, .int .i64 B.rooms, .int .i64 B.fr, .int .i64 B.un, .slice (some ⟨b2, off2, none⟩) cn cc, .int .i64 B.pn, .int .i64 B.pd, .int .i64 B.fee, .slice (some ⟨bb, off, none⟩) pm pc] := by (repeat' (first | (with_reducible assumption) | (with_reducible refine Row.new' _ _ _ (by first | rfl | (simp; done) | omega)) | (with_reducible refine Row.alloc ?_ _) | (with_reducible refine Row.drew ?_) | (with_reducible refine Row.drewN ?_ _) | (with_reducible refine Row.step ?_ (by with_reducible assumption)) | (with_reducible refine Row.set2' ?_ _ _; first | exact ⟨_, _, by with_reducible assumption⟩ | exact ⟨_, _, Row.alloc (by with_reducible assumption) _⟩ | exact ⟨_, _, Row.alloc (Row.alloc (by with_reducible assumption) _) _⟩) | (with_reducible refine Row.other ?_ (by first | omega | (simp; done) | (simp; omega)) _)))
            have c_x_0_4 := R_x_4.cell 0 rfl
            have c_x_1_4 := R_x_4.cell 1 rfl
            have c_x_2_4 := R_x_4.cell 2 rfl
            have c_x_3_4 := R_x_4.cell 3 rfl
            have c_x_4_4 := R_x_4.cell 4 rfl
            have c_x_5_4 := R_x_4.cell 5 rfl
            have c_x_6_4 := R_x_4.cell 6 rfl
            have c_x_7_4 := R_x_4.cell 7 rfl
            have c_x_8_4 := R_x_4.cell 8 rfl
            have c_x_9_4 := R_x_4.cell 9 rfl
            have z_x_0_4 := R_x_4.frozen 0
            have z_x_1_4 := R_x_4.frozen 1
            have z_x_2_4 := R_x_4.frozen 2
            have z_x_3_4 := R_x_4.frozen 3
            have z_x_4_4 := R_x_4.frozen 4
            have z_x_5_4 := R_x_4.frozen 5
            have z_x_6_4 := R_x_4.frozen 6
            have z_x_7_4 := R_x_4.frozen 7
            have z_x_8_4 := R_x_4.frozen 8
            have z_x_9_4 := R_x_4.frozen 9
            have l_x_4 := R_x_4.lt
            have R_y_4 : Row w4 (gy) [.int .i64 B.id, .int .i64 B.kind, .int .i64 B.rooms, .int .i64 B.fr, .int .i64 B.un, .slice (some ⟨b2, off2, none⟩) cn cc, .int .i64 B.pn, .int .i64 B.pd, .int .i64 B.fee, .slice (some ⟨bb, off, none⟩) pm pc] := by (repeat' (first | (with_reducible assumption) | (with_reducible refine Row.new' _ _ _ (by first | rfl | (simp; done) | omega)) | (with_reducible refine Row.alloc ?_ _) | (with_reducible refine Row.drew ?_) | (with_reducible refine Row.drewN ?_ _) | (with_reducible refine Row.step ?_ (by with_reducible assumption)) | (with_reducible refine Row.set2' ?_ _ _; first | exact ⟨_, _, by with_reducible assumption⟩ | exact ⟨_, _, Row.alloc (by with_reducible assumption) _⟩ | exact ⟨_, _, Row.alloc (Row.alloc (by with_reducible assumption) _) _⟩) | (with_reducible refine Row.other ?_ (by first | omega | (simp; done) | (simp; omega)) _)))
            have c_y_0_4 := R_y_4.cell 0 rfl
            have c_y_1_4 := R_y_4.cell 1 rfl
            have c_y_2_4 := R_y_4.cell 2 rfl
            have c_y_3_4 := R_y_4.cell 3 rfl
            have c_y_4_4 := R_y_4.cell 4 rfl
            have c_y_5_4 := R_y_4.cell 5 rfl
            have c_y_6_4 := R_y_4.cell 6 rfl
            have c_y_7_4 := R_y_4.cell 7 rfl
            have c_y_8_4 := R_y_4.cell 8 rfl
            have c_y_9_4 := R_y_4.cell 9 rfl
            have z_y_0_4 := R_y_4.frozen 0
            have z_y_1_4 := R_y_4.frozen 1
            have z_y_2_4 := R_y_4.frozen 2
            have z_y_3_4 := R_y_4.frozen 3
            have z_y_4_4 := R_y_4.frozen 4
            have z_y_5_4 := R_y_4.frozen 5
            have z_y_6_4 := R_y_4.frozen 6
            have z_y_7_4 := R_y_4.frozen 7
            have z_y_8_4 := R_y_4.frozen 8
            have z_y_9_4 := R_y_4.frozen 9
            have l_y_4 := R_y_4.lt
            have HB4 : Below w.heap.size w w4 := by (repeat' (first | (with_reducible exact Below.refl _ _) | (with_reducible assumption) | (with_reducible exact Bw.out (by with_reducible assumption)) | (with_reducible refine bw_alloc ?_ _) | (with_reducible refine bw_step ?_ (by with_reducible assumption)) | (with_reducible refine Below.alloc ?_ ?_ _) | (with_reducible refine Below.drew ?_) | (with_reducible refine below_drewN ?_ _) | (with_reducible refine Below.setCell ?_ ?_ _) | (with_reducible refine below_step ?_ (by with_reducible assumption) ?_) | (with_reducible exact Nat.le_refl _) | omega | (simp; omega) | (simp; done)))
            clear R_b_3 c_b_0_3 c_b_1_3 c_b_2_3 c_b_3_3 c_b_4_3 c_b_5_3 c_b_6_3 c_b_7_3 c_b_8_3 c_b_9_3 hb3 HB3
            clear RX4 RY4
            have hgxw : w.heap.size < gx := by omega
            have hgyw : w.heap.size < gy := by omega
            have hgx4 : gx < w4.heap.size := l_x_4
            have hgy4 : gy < w4.heap.size := l_y_4
            have hwb4 : w.heap.size < w4.heap.size := l_b_4
            have KC4 := Lib.hid (K0.out.cuts.below HB4)
            go_upto_region 7 with (first | (at_builtin; refine wpList_append_cuts rfl _ _ _ rfl Try.underlying24 w4.heap.size (.slice (some ⟨w4.heap.size, 0, none⟩) 0 0) [] rfl (OwnC.lit ⟨_, heap_new _ _, rfl⟩ (Nat.le_refl _)) (some ⟨b2, off2, none⟩) cn cc B.cuts rfl (KC4.out.below (by (repeat' (first | (with_reducible exact Below.refl _ _) | (with_reducible assumption) | (with_reducible exact Bw.out (by with_reducible assumption)) | (with_reducible refine bw_alloc ?_ _) | (with_reducible refine bw_step ?_ (by with_reducible assumption)) | (with_reducible refine Below.alloc ?_ ?_ _) | (with_reducible refine Below.drew ?_) | (with_reducible refine below_drewN ?_ _) | (with_reducible refine Below.setCell ?_ ?_ _) | (with_reducible refine below_step ?_ (by with_reducible assumption) ?_) | (with_reducible exact Nat.le_refl _) | omega | (simp; omega) | (simp; done))))) (by simp; omega) (by simp) ?_; intro v' w5 hown5 hbl5 hsz5; obtain ⟨a5, p5, rfl, ho5⟩ := hown5.shape cn (by rw [List.nil_append]; exact HLC.out)) | (at_builtin; refine wpList_append_cuts rfl _ _ _ rfl Try.underlying24 w4.heap.size (.slice a5 cn p5) ([] ++ B.cuts) rfl (ho5.alloc _) (some ⟨w5.heap.size, 0, none⟩) 1 _ [(day, 1, 1)] rfl (Sl3.one (Row.new' w5 [_, _, _] _ rfl)) (by rw [List.nil_append, HLC.out]; omega) (by simp at hsz5 ⊢; omega) ?_; intro v' w6 hown6 hbl6 hsz6; obtain ⟨a6, p6, rfl, ho6⟩ := hown6.shape (cn + 1) (by rw [List.nil_append, List.length_append, HLC.out]; rfl); obtain ⟨g6, rfl, hg6, hl6, hs6, hp6, hq6⟩ := ho6.own (by simp); have hb5 : Below w4.heap.size w4 w5 := hbl5 w4 (by (repeat' (first | (with_reducible exact Below.refl _ _) | (with_reducible assumption) | (with_reducible exact Bw.out (by with_reducible assumption)) | (with_reducible refine bw_alloc ?_ _) | (with_reducible refine bw_step ?_ (by with_reducible assumption)) | (with_reducible refine Below.alloc ?_ ?_ _) | (with_reducible refine Below.drew ?_) | (with_reducible refine below_drewN ?_ _) | (with_reducible refine Below.setCell ?_ ?_ _) | (with_reducible refine below_step ?_ (by with_reducible assumption) ?_) | (with_reducible exact Nat.le_refl _) | omega | (simp; omega) | (simp; done)))); have hb6 : Below w4.heap.size w4 w6 := hbl6 w4 (hb5.alloc (hb5.size) _); have R_x_6 := R_x_4.step hb6; have cx6 := R_x_6.cell 5 rfl; have zx6 := R_x_6.frozen 5; have lx6 := R_x_6.lt))
            clear cx6 zx6
            rw [List.nil_append] at hs6
            obtain ⟨w7, hw7⟩ : ∃ wd, w6.setCell ⟨gx, 5, none⟩ (.slice (some ⟨g6, 0, none⟩) (cn + 1) p6) = wd := ⟨_, rfl⟩
            rw [hw7]
            have R_x_7 : Row w7 gx [.int .i64 B.id, .int .i64 B.kind, .int .i64 B.rooms, .int .i64 B.fr, .int .i64 B.un, .slice (some ⟨g6, 0, none⟩) (cn + 1) p6, .int .i64 B.pn, .int .i64 B.pd, .int .i64 B.fee, .slice (some ⟨bb, off, none⟩) pm pc] := by rw [← hw7]; exact R_x_6.putAt 5 _ rfl
            have R_y_7 : Row w7 gy [.int .i64 B.id, .int .i64 B.kind, .int .i64 B.rooms, .int .i64 B.fr, .int .i64 B.un, .slice (some ⟨b2, off2, none⟩) cn cc, .int .i64 B.pn, .int .i64 B.pd, .int .i64 B.fee, .slice (some ⟨bb, off, none⟩) pm pc] := by rw [← hw7]; exact (R_y_4.step hb6).other (by simp; omega) _
            have R_b_7 : Row w7 w.heap.size [.int .i64 B.id, .int .i64 B.kind, .int .i64 B.rooms, .int .i64 B.fr, .int .i64 B.un, .slice (some ⟨b2, off2, none⟩) cn cc, .int .i64 B.pn, .int .i64 B.pd, .int .i64 B.fee, .slice (some ⟨bb, off, none⟩) pm pc] := by rw [← hw7]; exact (R_b_4.step hb6).other (by simp; omega) _
            have Sx7 : Sl3 w7 (some ⟨g6, 0, none⟩) (cn + 1) (B.cuts ++ [(day, 1, 1)]) := by rw [← hw7]; exact hs6.of_block (Below.heap_setCell _ _ _ _ (by simp; omega))
            have HB7 : Below w.heap.size w w7 := by rw [← hw7]; exact (HB4.trans (hb6.mono HB4.size)).setCell (by simp; omega) _
            clear hw7 hs6 ho6 hown6 hbl6 ho5 hown5 hbl5 hb5 hb6 R_x_6 KC4 R_x_4 R_y_4 R_b_4 HB4 hb4 c_x_0_4 c_y_0_4 c_b_0_4 z_x_0_4 z_y_0_4 c_x_1_4 c_y_1_4 c_b_1_4 z_x_1_4 z_y_1_4 c_x_2_4 c_y_2_4 c_b_2_4 z_x_2_4 z_y_2_4 c_x_3_4 c_y_3_4 c_b_3_4 z_x_3_4 z_y_3_4 c_x_4_4 c_y_4_4 c_b_4_4 z_x_4_4 z_y_4_4 c_x_5_4 c_y_5_4 c_b_5_4 z_x_5_4 z_y_5_4 c_x_6_4 c_y_6_4 c_b_6_4 z_x_6_4 z_y_6_4 c_x_7_4 c_y_7_4 c_b_7_4 z_x_7_4 z_y_7_4 c_x_8_4 c_y_8_4 c_b_8_4 z_x_8_4 z_y_8_4 c_x_9_4 c_y_9_4 c_b_9_4 z_x_9_4 z_y_9_4
            have c_b_5_7 := R_b_7.cell 5 rfl
            have hgx7 : gx < w7.heap.size := R_x_7.lt
            have hgy7 : gy < w7.heap.size := R_y_7.lt
            have hwb7 : w.heap.size < w7.heap.size := R_b_7.lt
            have hg67 : g6 < w7.heap.size := by
              obtain ⟨_, _, _, _, _, _, _, _, e, hlt, _⟩ := Sx7.get (i := 0) (by omega)
              cases e
              exact hlt
            have KC7 := Lib.hid (K0.out.cuts.below HB7)
            go_upto_region 8 with (first | (at_builtin; refine wpList_append_cuts rfl _ _ _ rfl Try.underlying24 w7.heap.size (.slice (some ⟨w7.heap.size, 0, none⟩) 0 0) [] rfl (OwnC.lit ⟨_, heap_new _ _, rfl⟩ (Nat.le_refl _)) (some ⟨b2, off2, none⟩) cn cc B.cuts rfl (KC7.out.below (by (repeat' (first | (with_reducible exact Below.refl _ _) | (with_reducible assumption) | (with_reducible exact Bw.out (by with_reducible assumption)) | (with_reducible refine bw_alloc ?_ _) | (with_reducible refine bw_step ?_ (by with_reducible assumption)) | (with_reducible refine Below.alloc ?_ ?_ _) | (with_reducible refine Below.drew ?_) | (with_reducible refine below_drewN ?_ _) | (with_reducible refine Below.setCell ?_ ?_ _) | (with_reducible refine below_step ?_ (by with_reducible assumption) ?_) | (with_reducible exact Nat.le_refl _) | omega | (simp; omega) | (simp; done))))) (by simp; omega) (by simp) ?_; intro v' w8 hown8 hbl8 hsz8; obtain ⟨a8, p8, rfl, ho8⟩ := hown8.shape cn (by rw [List.nil_append]; exact HLC.out)) | (at_builtin; refine wpList_append_cuts rfl _ _ _ rfl Try.underlying24 w7.heap.size (.slice a8 cn p8) ([] ++ B.cuts) rfl (ho8.alloc _) (some ⟨w8.heap.size, 0, none⟩) 1 _ [(day, 0, 1)] rfl (Sl3.one (Row.new' w8 [_, _, _] _ rfl)) (by rw [List.nil_append, HLC.out]; omega) (by simp at hsz8 ⊢; omega) ?_; intro v' w9 hown9 hbl9 hsz9; obtain ⟨a9, p9, rfl, ho9⟩ := hown9.shape (cn + 1) (by rw [List.nil_append, List.length_append, HLC.out]; rfl); obtain ⟨g9, rfl, hg9, hl9, hs9, hp9, hq9⟩ := ho9.own (by simp); have hb8 : Below w7.heap.size w7 w8 := hbl8 w7 (by (repeat' (first | (with_reducible exact Below.refl _ _) | (with_reducible assumption) | (with_reducible exact Bw.out (by with_reducible assumption)) | (with_reducible refine bw_alloc ?_ _) | (with_reducible refine bw_step ?_ (by with_reducible assumption)) | (with_reducible refine Below.alloc ?_ ?_ _) | (with_reducible refine Below.drew ?_) | (with_reducible refine below_drewN ?_ _) | (with_reducible refine Below.setCell ?_ ?_ _) | (with_reducible refine below_step ?_ (by with_reducible assumption) ?_) | (with_reducible exact Nat.le_refl _) | omega | (simp; omega) | (simp; done)))); have hb9 : Below w7.heap.size w7 w9 := hbl9 w7 (hb8.alloc (hb8.size) _); have R_y_9 := R_y_7.step hb9; have cx9 := R_y_9.cell 5 rfl; have zx9 := R_y_9.frozen 5; have lx9 := R_y_9.lt))
            clear cx9 zx9
            rw [List.nil_append] at hs9
            obtain ⟨w10, hw10⟩ : ∃ wd, w9.setCell ⟨gy, 5, none⟩ (.slice (some ⟨g9, 0, none⟩) (cn + 1) p9) = wd := ⟨_, rfl⟩
            rw [hw10]
            have R_y_10 : Row w10 gy [.int .i64 B.id, .int .i64 B.kind, .int .i64 B.rooms, .int .i64 B.fr, .int .i64 B.un, .slice (some ⟨g9, 0, none⟩) (cn + 1) p9, .int .i64 B.pn, .int .i64 B.pd, .int .i64 B.fee, .slice (some ⟨bb, off, none⟩) pm pc] := by rw [← hw10]; exact R_y_9.putAt 5 _ rfl
            have R_x_10 : Row w10 gx [.int .i64 B.id, .int .i64 B.kind, .int .i64 B.rooms, .int .i64 B.fr, .int .i64 B.un, .slice (some ⟨g6, 0, none⟩) (cn + 1) p6, .int .i64 B.pn, .int .i64 B.pd, .int .i64 B.fee, .slice (some ⟨bb, off, none⟩) pm pc] := by rw [← hw10]; exact (R_x_7.step hb9).other (by simp; omega) _
            have R_b_10 : Row w10 w.heap.size [.int .i64 B.id, .int .i64 B.kind, .int .i64 B.rooms, .int .i64 B.fr, .int .i64 B.un, .slice (some ⟨b2, off2, none⟩) cn cc, .int .i64 B.pn, .int .i64 B.pd, .int .i64 B.fee, .slice (some ⟨bb, off, none⟩) pm pc] := by rw [← hw10]; exact (R_b_7.step hb9).other (by simp; omega) _
            have Sy10 : Sl3 w10 (some ⟨g9, 0, none⟩) (cn + 1) (B.cuts ++ [(day, 0, 1)]) := by rw [← hw10]; exact hs9.of_block (Below.heap_setCell _ _ _ _ (by simp; omega))
            have HB10 : Below w.heap.size w w10 := by rw [← hw10]; exact (HB7.trans (hb9.mono HB7.size)).setCell (by simp; omega) _
            have Sx10 : Sl3 w10 (some ⟨g6, 0, none⟩) (cn + 1) (B.cuts ++ [(day, 1, 1)]) := by rw [← hw10]; exact (Sx7.below hb9).of_block (Below.heap_setCell _ _ _ _ (by simp; omega))
            clear hw10 hs9 ho9 hown9 hbl9 ho8 hown8 hbl8 hb8 hb9 R_y_9 KC7 R_x_7 R_y_7 R_b_7 HB7 Sx7 c_b_5_7
            have c_x_0_10 := R_x_10.cell 0 rfl
            have c_x_1_10 := R_x_10.cell 1 rfl
            have c_x_2_10 := R_x_10.cell 2 rfl
            have c_x_3_10 := R_x_10.cell 3 rfl
            have c_x_4_10 := R_x_10.cell 4 rfl
            have c_x_5_10 := R_x_10.cell 5 rfl
            have c_x_6_10 := R_x_10.cell 6 rfl
            have c_x_7_10 := R_x_10.cell 7 rfl
            have c_x_8_10 := R_x_10.cell 8 rfl
            have c_x_9_10 := R_x_10.cell 9 rfl
            have l_x_10 := R_x_10.lt
            have c_y_0_10 := R_y_10.cell 0 rfl
            have c_y_1_10 := R_y_10.cell 1 rfl
            have c_y_2_10 := R_y_10.cell 2 rfl
            have c_y_3_10 := R_y_10.cell 3 rfl
            have c_y_4_10 := R_y_10.cell 4 rfl
            have c_y_5_10 := R_y_10.cell 5 rfl
            have c_y_6_10 := R_y_10.cell 6 rfl
            have c_y_7_10 := R_y_10.cell 7 rfl
            have c_y_8_10 := R_y_10.cell 8 rfl
            have c_y_9_10 := R_y_10.cell 9 rfl
            have l_y_10 := R_y_10.lt
            have c_b_0_10 := R_b_10.cell 0 rfl
            have c_b_1_10 := R_b_10.cell 1 rfl
            have c_b_2_10 := R_b_10.cell 2 rfl
            have c_b_3_10 := R_b_10.cell 3 rfl
            have c_b_4_10 := R_b_10.cell 4 rfl
            have c_b_5_10 := R_b_10.cell 5 rfl
            have c_b_6_10 := R_b_10.cell 6 rfl
            have c_b_7_10 := R_b_10.cell 7 rfl
            have c_b_8_10 := R_b_10.cell 8 rfl
            have c_b_9_10 := R_b_10.cell 9 rfl
            have l_b_10 := R_b_10.lt
            have HSx := Lib.hid Sx10
            have HSy := Lib.hid Sy10
            clear Sx10 Sy10
            go_wp2_with fail
            refine (g_Held_any B T (B.fr + j) _ _ _ _ _ _ _ (K0.out.below (by (repeat' (first | (with_reducible exact Below.refl _ _) | (with_reducible assumption) | (with_reducible exact Bw.out (by with_reducible assumption)) | (with_reducible refine bw_alloc ?_ _) | (with_reducible refine bw_step ?_ (by with_reducible assumption)) | (with_reducible refine Below.alloc ?_ ?_ _) | (with_reducible refine Below.drew ?_) | (with_reducible refine below_drewN ?_ _) | (with_reducible refine Below.setCell ?_ ?_ _) | (with_reducible refine below_step ?_ (by with_reducible assumption) ?_) | (with_reducible exact Nat.le_refl _) | omega | (simp; omega) | (simp; done))))) X 0 HVX.out HEX.out).mono ?_
            rintro e w11 ⟨rfl, hb11⟩
            have R_b_11 : Row w11 (w.heap.size) [.int .i64 B.id, .int .i64 B.kind, .int .i64 B.rooms, .int .i64 B.fr, .int .i64 B.un, .slice (some ⟨b2, off2, none⟩) cn cc, .int .i64 B.pn, .int .i64 B.pd, .int .i64 B.fee, .slice (some ⟨bb, off, none⟩) pm pc] := by (repeat' (first | (with_reducible assumption) | (with_reducible refine Row.new' _ _ _ (by first | rfl | (simp; done) | omega)) | (with_reducible refine Row.alloc ?_ _) | (with_reducible refine Row.drew ?_) | (with_reducible refine Row.drewN ?_ _) | (with_reducible refine Row.step ?_ (by with_reducible assumption)) | (with_reducible refine Row.set2' ?_ _ _; first | exact ⟨_, _, by with_reducible assumption⟩ | exact ⟨_, _, Row.alloc (by with_reducible assumption) _⟩ | exact ⟨_, _, Row.alloc (Row.alloc (by with_reducible assumption) _) _⟩) | (with_reducible refine Row.other ?_ (by first | omega | (simp; done) | (simp; omega)) _)))
            have c_b_0_11 := R_b_11.cell 0 rfl
            have c_b_1_11 := R_b_11.cell 1 rfl
            have c_b_2_11 := R_b_11.cell 2 rfl
            have c_b_3_11 := R_b_11.cell 3 rfl
            have c_b_4_11 := R_b_11.cell 4 rfl
            have c_b_5_11 := R_b_11.cell 5 rfl
            have c_b_6_11 := R_b_11.cell 6 rfl
            have c_b_7_11 := R_b_11.cell 7 rfl
            have c_b_8_11 := R_b_11.cell 8 rfl
            have c_b_9_11 := R_b_11.cell 9 rfl
            have l_b_11 := R_b_11.lt
            have R_x_11 : Row w11 (gx) [.int .i64 B.id, .int .i64 B.kind, .int .i64 B.rooms, .int .i64 B.fr, .int .i64 B.un, .slice (some ⟨g6, 0, none⟩) (cn + 1) p6, .int .i64 B.pn, .int .i64 B.pd, .int .i64 B.fee, .slice (some ⟨bb, off, none⟩) pm pc] := by (repeat' (first | (with_reducible assumption) | (with_reducible refine Row.new' _ _ _ (by first | rfl | (simp; done) | omega)) | (with_reducible refine Row.alloc ?_ _) | (with_reducible refine Row.drew ?_) | (with_reducible refine Row.drewN ?_ _) | (with_reducible refine Row.step ?_ (by with_reducible assumption)) | (with_reducible refine Row.set2' ?_ _ _; first | exact ⟨_, _, by with_reducible assumption⟩ | exact ⟨_, _, Row.alloc (by with_reducible assumption) _⟩ | exact ⟨_, _, Row.alloc (Row.alloc (by with_reducible assumption) _) _⟩) | (with_reducible refine Row.other ?_ (by first | omega | (simp; done) | (simp; omega)) _)))
            have c_x_0_11 := R_x_11.cell 0 rfl
            have c_x_1_11 := R_x_11.cell 1 rfl
            have c_x_2_11 := R_x_11.cell 2 rfl
            have c_x_3_11 := R_x_11.cell 3 rfl
            have c_x_4_11 := R_x_11.cell 4 rfl
            have c_x_5_11 := R_x_11.cell 5 rfl
            have c_x_6_11 := R_x_11.cell 6 rfl
            have c_x_7_11 := R_x_11.cell 7 rfl
            have c_x_8_11 := R_x_11.cell 8 rfl
            have c_x_9_11 := R_x_11.cell 9 rfl
            have l_x_11 := R_x_11.lt
            have R_y_11 : Row w11 (gy) [.int .i64 B.id, .int .i64 B.kind, .int .i64 B.rooms, .int .i64 B.fr, .int .i64 B.un, .slice (some ⟨g9, 0, none⟩) (cn + 1) p9, .int .i64 B.pn, .int .i64 B.pd, .int .i64 B.fee, .slice (some ⟨bb, off, none⟩) pm pc] := by (repeat' (first | (with_reducible assumption) | (with_reducible refine Row.new' _ _ _ (by first | rfl | (simp; done) | omega)) | (with_reducible refine Row.alloc ?_ _) | (with_reducible refine Row.drew ?_) | (with_reducible refine Row.drewN ?_ _) | (with_reducible refine Row.step ?_ (by with_reducible assumption)) | (with_reducible refine Row.set2' ?_ _ _; first | exact ⟨_, _, by with_reducible assumption⟩ | exact ⟨_, _, Row.alloc (by with_reducible assumption) _⟩ | exact ⟨_, _, Row.alloc (Row.alloc (by with_reducible assumption) _) _⟩) | (with_reducible refine Row.other ?_ (by first | omega | (simp; done) | (simp; omega)) _)))
            have c_y_0_11 := R_y_11.cell 0 rfl
            have c_y_1_11 := R_y_11.cell 1 rfl
            have c_y_2_11 := R_y_11.cell 2 rfl
            have c_y_3_11 := R_y_11.cell 3 rfl
            have c_y_4_11 := R_y_11.cell 4 rfl
            have c_y_5_11 := R_y_11.cell 5 rfl
            have c_y_6_11 := R_y_11.cell 6 rfl
            have c_y_7_11 := R_y_11.cell 7 rfl
            have c_y_8_11 := R_y_11.cell 8 rfl
            have c_y_9_11 := R_y_11.cell 9 rfl
            have l_y_11 := R_y_11.lt
            have HB11 : Below w.heap.size w w11 := by (repeat' (first | (with_reducible exact Below.refl _ _) | (with_reducible assumption) | (with_reducible exact Bw.out (by with_reducible assumption)) | (with_reducible refine bw_alloc ?_ _) | (with_reducible refine bw_step ?_ (by with_reducible assumption)) | (with_reducible refine Below.alloc ?_ ?_ _) | (with_reducible refine Below.drew ?_) | (with_reducible refine below_drewN ?_ _) | (with_reducible refine Below.setCell ?_ ?_ _) | (with_reducible refine below_step ?_ (by with_reducible assumption) ?_) | (with_reducible exact Nat.le_refl _) | omega | (simp; omega) | (simp; done)))
            have HSx1 := Lib.hid (HSx.out.below hb11)
            have HSy1 := Lib.hid (HSy.out.below hb11)
            go_wp2_with fail
            refine (g_Held_cut B (B.cuts ++ [(day, 1, 1)]) T (B.fr + j) _ _ _ _ _ _ _ (BlkIn.cut K0.out (by (repeat' (first | (with_reducible exact Below.refl _ _) | (with_reducible assumption) | (with_reducible exact Bw.out (by with_reducible assumption)) | (with_reducible refine bw_alloc ?_ _) | (with_reducible refine bw_step ?_ (by with_reducible assumption)) | (with_reducible refine Below.alloc ?_ ?_ _) | (with_reducible refine Below.drew ?_) | (with_reducible refine below_drewN ?_ _) | (with_reducible refine Below.setCell ?_ ?_ _) | (with_reducible refine below_step ?_ (by with_reducible assumption) ?_) | (with_reducible exact Nat.le_refl _) | omega | (simp; omega) | (simp; done)))) HSx1.out hp6 hq6) X 0 HVA.out HEA.out).mono ?_
            rintro e w12 ⟨rfl, hb12⟩
            have R_b_12 : Row w12 (w.heap.size) [.int .i64 B.id, .int .i64 B.kind, .int .i64 B.rooms, .int .i64 B.fr, .int .i64 B.un, .slice (some ⟨b2, off2, none⟩) cn cc, .int .i64 B.pn, .int .i64 B.pd, .int .i64 B.fee, .slice (some ⟨bb, off, none⟩) pm pc] := by (repeat' (first | (with_reducible assumption) | (with_reducible refine Row.new' _ _ _ (by first | rfl | (simp; done) | omega)) | (with_reducible refine Row.alloc ?_ _) | (with_reducible refine Row.drew ?_) | (with_reducible refine Row.drewN ?_ _) | (with_reducible refine Row.step ?_ (by with_reducible assumption)) | (with_reducible refine Row.set2' ?_ _ _; first | exact ⟨_, _, by with_reducible assumption⟩ | exact ⟨_, _, Row.alloc (by with_reducible assumption) _⟩ | exact ⟨_, _, Row.alloc (Row.alloc (by with_reducible assumption) _) _⟩) | (with_reducible refine Row.other ?_ (by first | omega | (simp; done) | (simp; omega)) _)))
            have c_b_0_12 := R_b_12.cell 0 rfl
            have c_b_1_12 := R_b_12.cell 1 rfl
            have c_b_2_12 := R_b_12.cell 2 rfl
            have c_b_3_12 := R_b_12.cell 3 rfl
            have c_b_4_12 := R_b_12.cell 4 rfl
            have c_b_5_12 := R_b_12.cell 5 rfl
            have c_b_6_12 := R_b_12.cell 6 rfl
            have c_b_7_12 := R_b_12.cell 7 rfl
            have c_b_8_12 := R_b_12.cell 8 rfl
            have c_b_9_12 := R_b_12.cell 9 rfl
            have l_b_12 := R_b_12.lt
            have R_x_12 : Row w12 (gx) [.int .i64 B.id, .int .i64 B.kind, .int .i64 B.rooms, .int .i64 B.fr, .int .i64 B.un, .slice (some ⟨g6, 0, none⟩) (cn + 1) p6, .int .i64 B.pn, .int .i64 B.pd, .int .i64 B.fee, .slice (some ⟨bb, off, none⟩) pm pc] := by (repeat' (first | (with_reducible assumption) | (with_reducible refine Row.new' _ _ _ (by first | rfl | (simp; done) | omega)) | (with_reducible refine Row.alloc ?_ _) | (with_reducible refine Row.drew ?_) | (with_reducible refine Row.drewN ?_ _) | (with_reducible refine Row.step ?_ (by with_reducible assumption)) | (with_reducible refine Row.set2' ?_ _ _; first | exact ⟨_, _, by with_reducible assumption⟩ | exact ⟨_, _, Row.alloc (by with_reducible assumption) _⟩ | exact ⟨_, _, Row.alloc (Row.alloc (by with_reducible assumption) _) _⟩) | (with_reducible refine Row.other ?_ (by first | omega | (simp; done) | (simp; omega)) _)))
            have c_x_0_12 := R_x_12.cell 0 rfl
            have c_x_1_12 := R_x_12.cell 1 rfl
            have c_x_2_12 := R_x_12.cell 2 rfl
            have c_x_3_12 := R_x_12.cell 3 rfl
            have c_x_4_12 := R_x_12.cell 4 rfl
            have c_x_5_12 := R_x_12.cell 5 rfl
            have c_x_6_12 := R_x_12.cell 6 rfl
            have c_x_7_12 := R_x_12.cell 7 rfl
            have c_x_8_12 := R_x_12.cell 8 rfl
            have c_x_9_12 := R_x_12.cell 9 rfl
            have l_x_12 := R_x_12.lt
            have R_y_12 : Row w12 (gy) [.int .i64 B.id, .int .i64 B.kind, .int .i64 B.rooms, .int .i64 B.fr, .int .i64 B.un, .slice (some ⟨g9, 0, none⟩) (cn + 1) p9, .int .i64 B.pn, .int .i64 B.pd, .int .i64 B.fee, .slice (some ⟨bb, off, none⟩) pm pc] := by (repeat' (first | (with_reducible assumption) | (with_reducible refine Row.new' _ _ _ (by first | rfl | (simp; done) | omega)) | (with_reducible refine Row.alloc ?_ _) | (with_reducible refine Row.drew ?_) | (with_reducible refine Row.drewN ?_ _) | (with_reducible refine Row.step ?_ (by with_reducible assumption)) | (with_reducible refine Row.set2' ?_ _ _; first | exact ⟨_, _, by with_reducible assumption⟩ | exact ⟨_, _, Row.alloc (by with_reducible assumption) _⟩ | exact ⟨_, _, Row.alloc (Row.alloc (by with_reducible assumption) _) _⟩) | (with_reducible refine Row.other ?_ (by first | omega | (simp; done) | (simp; omega)) _)))
            have c_y_0_12 := R_y_12.cell 0 rfl
            have c_y_1_12 := R_y_12.cell 1 rfl
            have c_y_2_12 := R_y_12.cell 2 rfl
            have c_y_3_12 := R_y_12.cell 3 rfl
            have c_y_4_12 := R_y_12.cell 4 rfl
            have c_y_5_12 := R_y_12.cell 5 rfl
            have c_y_6_12 := R_y_12.cell 6 rfl
            have c_y_7_12 := R_y_12.cell 7 rfl
            have c_y_8_12 := R_y_12.cell 8 rfl
            have c_y_9_12 := R_y_12.cell 9 rfl
            have l_y_12 := R_y_12.lt
            have HB12 : Below w.heap.size w w12 := by (repeat' (first | (with_reducible exact Below.refl _ _) | (with_reducible assumption) | (with_reducible exact Bw.out (by with_reducible assumption)) | (with_reducible refine bw_alloc ?_ _) | (with_reducible refine bw_step ?_ (by with_reducible assumption)) | (with_reducible refine Below.alloc ?_ ?_ _) | (with_reducible refine Below.drew ?_) | (with_reducible refine below_drewN ?_ _) | (with_reducible refine Below.setCell ?_ ?_ _) | (with_reducible refine below_step ?_ (by with_reducible assumption) ?_) | (with_reducible exact Nat.le_refl _) | omega | (simp; omega) | (simp; done)))
            clear R_b_11 c_b_0_11 c_b_1_11 c_b_2_11 c_b_3_11 c_b_4_11 c_b_5_11 c_b_6_11 c_b_7_11 c_b_8_11 c_b_9_11 R_x_11 c_x_0_11 c_x_1_11 c_x_2_11 c_x_3_11 c_x_4_11 c_x_5_11 c_x_6_11 c_x_7_11 c_x_8_11 c_x_9_11 R_y_11 c_y_0_11 c_y_1_11 c_y_2_11 c_y_3_11 c_y_4_11 c_y_5_11 c_y_6_11 c_y_7_11 c_y_8_11 c_y_9_11 hb11 HB11
            have HSy2 := Lib.hid (HSy1.out.below hb12)
            go_wp2_with fail
            refine (g_Held_cut B (B.cuts ++ [(day, 0, 1)]) T (B.fr + j) _ _ _ _ _ _ _ (BlkIn.cut K0.out (by (repeat' (first | (with_reducible exact Below.refl _ _) | (with_reducible assumption) | (with_reducible exact Bw.out (by with_reducible assumption)) | (with_reducible refine bw_alloc ?_ _) | (with_reducible refine bw_step ?_ (by with_reducible assumption)) | (with_reducible refine Below.alloc ?_ ?_ _) | (with_reducible refine Below.drew ?_) | (with_reducible refine below_drewN ?_ _) | (with_reducible refine Below.setCell ?_ ?_ _) | (with_reducible refine below_step ?_ (by with_reducible assumption) ?_) | (with_reducible exact Nat.le_refl _) | omega | (simp; omega) | (simp; done)))) HSy2.out hp9 hq9) z 0 HVN.out HEN.out).mono ?_
            rintro e w13 ⟨rfl, hb13⟩
            have R_b_13 : Row w13 (w.heap.size) [.int .i64 B.id, .int .i64 B.kind, .int .i64 B.rooms, .int .i64 B.fr, .int .i64 B.un, .slice (some ⟨b2, off2, none⟩) cn cc, .int .i64 B.pn, .int .i64 B.pd, .int .i64 B.fee, .slice (some ⟨bb, off, none⟩) pm pc] := by (repeat' (first | (with_reducible assumption) | (with_reducible refine Row.new' _ _ _ (by first | rfl | (simp; done) | omega)) | (with_reducible refine Row.alloc ?_ _) | (with_reducible refine Row.drew ?_) | (with_reducible refine Row.drewN ?_ _) | (with_reducible refine Row.step ?_ (by with_reducible assumption)) | (with_reducible refine Row.set2' ?_ _ _; first | exact ⟨_, _, by with_reducible assumption⟩ | exact ⟨_, _, Row.alloc (by with_reducible assumption) _⟩ | exact ⟨_, _, Row.alloc (Row.alloc (by with_reducible assumption) _) _⟩) | (with_reducible refine Row.other ?_ (by first | omega | (simp; done) | (simp; omega)) _)))
            have c_b_0_13 := R_b_13.cell 0 rfl
            have c_b_1_13 := R_b_13.cell 1 rfl
            have c_b_2_13 := R_b_13.cell 2 rfl
            have c_b_3_13 := R_b_13.cell 3 rfl
            have c_b_4_13 := R_b_13.cell 4 rfl
            have c_b_5_13 := R_b_13.cell 5 rfl
            have c_b_6_13 := R_b_13.cell 6 rfl
            have c_b_7_13 := R_b_13.cell 7 rfl
            have c_b_8_13 := R_b_13.cell 8 rfl
            have c_b_9_13 := R_b_13.cell 9 rfl
            have l_b_13 := R_b_13.lt
            have R_x_13 : Row w13 (gx) [.int .i64 B.id, .int .i64 B.kind, .int .i64 B.rooms, .int .i64 B.fr, .int .i64 B.un, .slice (some ⟨g6, 0, none⟩) (cn + 1) p6, .int .i64 B.pn, .int .i64 B.pd, .int .i64 B.fee, .slice (some ⟨bb, off, none⟩) pm pc] := by (repeat' (first | (with_reducible assumption) | (with_reducible refine Row.new' _ _ _ (by first | rfl | (simp; done) | omega)) | (with_reducible refine Row.alloc ?_ _) | (with_reducible refine Row.drew ?_) | (with_reducible refine Row.drewN ?_ _) | (with_reducible refine Row.step ?_ (by with_reducible assumption)) | (with_reducible refine Row.set2' ?_ _ _; first | exact ⟨_, _, by with_reducible assumption⟩ | exact ⟨_, _, Row.alloc (by with_reducible assumption) _⟩ | exact ⟨_, _, Row.alloc (Row.alloc (by with_reducible assumption) _) _⟩) | (with_reducible refine Row.other ?_ (by first | omega | (simp; done) | (simp; omega)) _)))
            have c_x_0_13 := R_x_13.cell 0 rfl
            have c_x_1_13 := R_x_13.cell 1 rfl
            have c_x_2_13 := R_x_13.cell 2 rfl
            have c_x_3_13 := R_x_13.cell 3 rfl
            have c_x_4_13 := R_x_13.cell 4 rfl
            have c_x_5_13 := R_x_13.cell 5 rfl
            have c_x_6_13 := R_x_13.cell 6 rfl
            have c_x_7_13 := R_x_13.cell 7 rfl
            have c_x_8_13 := R_x_13.cell 8 rfl
            have c_x_9_13 := R_x_13.cell 9 rfl
            have l_x_13 := R_x_13.lt
            have R_y_13 : Row w13 (gy) [.int .i64 B.id, .int .i64 B.kind, .int .i64 B.rooms, .int .i64 B.fr, .int .i64 B.un, .slice (some ⟨g9, 0, none⟩) (cn + 1) p9, .int .i64 B.pn, .int .i64 B.pd, .int .i64 B.fee, .slice (some ⟨bb, off, none⟩) pm pc] := by (repeat' (first | (with_reducible assumption) | (with_reducible refine Row.new' _ _ _ (by first | rfl | (simp; done) | omega)) | (with_reducible refine Row.alloc ?_ _) | (with_reducible refine Row.drew ?_) | (with_reducible refine Row.drewN ?_ _) | (with_reducible refine Row.step ?_ (by with_reducible assumption)) | (with_reducible refine Row.set2' ?_ _ _; first | exact ⟨_, _, by with_reducible assumption⟩ | exact ⟨_, _, Row.alloc (by with_reducible assumption) _⟩ | exact ⟨_, _, Row.alloc (Row.alloc (by with_reducible assumption) _) _⟩) | (with_reducible refine Row.other ?_ (by first | omega | (simp; done) | (simp; omega)) _)))
            have c_y_0_13 := R_y_13.cell 0 rfl
            have c_y_1_13 := R_y_13.cell 1 rfl
            have c_y_2_13 := R_y_13.cell 2 rfl
            have c_y_3_13 := R_y_13.cell 3 rfl
            have c_y_4_13 := R_y_13.cell 4 rfl
            have c_y_5_13 := R_y_13.cell 5 rfl
            have c_y_6_13 := R_y_13.cell 6 rfl
            have c_y_7_13 := R_y_13.cell 7 rfl
            have c_y_8_13 := R_y_13.cell 8 rfl
            have c_y_9_13 := R_y_13.cell 9 rfl
            have l_y_13 := R_y_13.lt
            have HB13 : Below w.heap.size w w13 := by (repeat' (first | (with_reducible exact Below.refl _ _) | (with_reducible assumption) | (with_reducible exact Bw.out (by with_reducible assumption)) | (with_reducible refine bw_alloc ?_ _) | (with_reducible refine bw_step ?_ (by with_reducible assumption)) | (with_reducible refine Below.alloc ?_ ?_ _) | (with_reducible refine Below.drew ?_) | (with_reducible refine below_drewN ?_ _) | (with_reducible refine Below.setCell ?_ ?_ _) | (with_reducible refine below_step ?_ (by with_reducible assumption) ?_) | (with_reducible exact Nat.le_refl _) | omega | (simp; omega) | (simp; done)))
            clear R_b_12 c_b_0_12 c_b_1_12 c_b_2_12 c_b_3_12 c_b_4_12 c_b_5_12 c_b_6_12 c_b_7_12 c_b_8_12 c_b_9_12 R_x_12 c_x_0_12 c_x_1_12 c_x_2_12 c_x_3_12 c_x_4_12 c_x_5_12 c_x_6_12 c_x_7_12 c_x_8_12 c_x_9_12 R_y_12 c_y_0_12 c_y_1_12 c_y_2_12 c_y_3_12 c_y_4_12 c_y_5_12 c_y_6_12 c_y_7_12 c_y_8_12 c_y_9_12 hb12 HB12
            have Z13 : CellAt w13 bb (off + j) (.int .i64 z) := by rw [← HZ.out]; exact (K0.out.picked.below HB13).cellOf hjp
            have Zc := Z13.out
            have e2 := HE2.out
            clear Z13
            go_wp2_with fail
            all_goals
              clear e2
              go_ret
              refine ⟨(by first | rfl | exact ret_bool (by first | rfl | (simp; done))), ?_⟩
              (repeat' (first | (with_reducible exact Below.refl _ _) | (with_reducible assumption) | (with_reducible exact Bw.out (by with_reducible assumption)) | (with_reducible refine bw_alloc ?_ _) | (with_reducible refine bw_step ?_ (by with_reducible assumption)) | (with_reducible refine Below.alloc ?_ ?_ _) | (with_reducible refine Below.drew ?_) | (with_reducible refine below_drewN ?_ _) | (with_reducible refine Below.setCell ?_ ?_ _) | (with_reducible refine below_step ?_ (by with_reducible assumption) ?_) | (with_reducible exact Nat.le_refl _) | omega | (simp; omega) | (simp; done)))


set_option maxRecDepth 100000 in
theorem groupCuts_lifted (os : Os) (started : os.Started) (H : Type) (enc : TypeId × Value → H) :
    ReturnsInHanded {} Try.checked os 5 .any (Rows.groupCutsSpec.pre6 enc Try.prog Try.f5 Rows.groupCutsRow.domain false) (Rows.groupCutsSpec.post enc Try.prog Try.f5 false true false false) := by
  refine returnsInHanded_of_change (C := Try.checked) own started (by kernel_rfl) Try.func5
    (ChangeSpec.witness6 (enc := enc) (C := Try.checked) false ⟨#[], #[.agg #[.int .i64 0, .int .i64 0, .int .i64 0, .int .i64 0, .int .i64 0, .slice none 0 0, .int .i64 0, .int .i64 0, .int .i64 0, .slice none 0 0], .int .i64 0, .int .u16 0, .int .u16 0], []⟩ 8 (by kernel_rfl) (by kernel_rfl) (by kernel_rfl) (by kernel_rfl)) ?_
  intro W base args ds gs before hval0 hW _ _
  have hval : ∀ (j : Nat) t v, Try.f5.params[j]? = some t → args[j]? = some v → Value.okWide Try.prog W .any base t v := hval0
  have hW' := hW
  obtain ⟨p, q, hA0, hV, rfl, hfz, hnd⟩ := hW
  obtain ⟨rfl, rfl⟩ := trodVars_none hV
  have hA : DataW.TrodAll enc Try.prog W 0 (fun _ => true) true Try.f5.params.toList args.toList ds p := hA0
  rw [Try.params5] at hA hval
  obtain ⟨v0, vs0, d0, ds0, p0, q0, hargs, rfl, rfl, h0, r0⟩ := trodAll_cons hA
  obtain ⟨v1, vs1, d1, ds1, p1, q1, rfl, rfl, rfl, h1, r1⟩ := trodAll_cons r0
  obtain ⟨v2, vs2, d2, ds2, p2, q2, rfl, rfl, rfl, h2, r2⟩ := trodAll_cons r1
  obtain ⟨v3, vs3, d3, ds3, p3, q3, rfl, rfl, rfl, h3, r3⟩ := trodAll_cons r2
  obtain ⟨rfl, rfl, rfl⟩ := trodAll_nil r3
  obtain rfl : args = #[v0, v1, v2, v3] := by cases args; simp_all
  obtain ⟨b, ca_b, cn_b, cc_b, pa_b, pm_b, pc_b, rfl, hs_b, wf_b⟩ := block_of (hval 0 29 v0 rfl rfl) h0
  obtain ⟨day, rfl, rfl, rfl, wday⟩ := open_int Try.underlying3 (hval 1 3 v1 rfl rfl) h1
  obtain ⟨l, rfl, rfl, rfl, wl⟩ := open_int Try.underlying40 (hval 2 40 v2 rfl rfl) h2
  obtain ⟨q, rfl, rfl, rfl, wq⟩ := open_int Try.underlying40 (hval 3 40 v3 rfl rfl) h3
  clear hA0 hval0
  refine (gcut_walk b _ _ _ _ _ _ day l q wf_b wday wl wq W hs_b).mono fun e W' ⟨he, hb⟩ => ?_
  subst he
  exact ⟨_, rfl, law_post (B := 4) laidOut (by rw [Try.params5]; simp only [List.mem_cons, List.not_mem_nil, or_false, forall_eq_or_imp, forall_eq]; first | exact readable_groupCuts | (repeat' apply And.intro) <;> first | exact of_decide_eq_true (by kernel_rfl) | kernel_rfl) rfl Try.underlying4 rfl rfl hW' hb⟩

theorem groupCuts_over : Rows.groupCutsRow.holds Try.pinned (OpenSpec.ofChange Rows.groupCutsSpec) :=
  OpenClaim.holds_of_wide 5 Try.f5 rfl rfl rfl rfl rfl rfl rfl ⟨rfl, rfl, rfl, rfl, rfl⟩ rfl rfl rfl rfl rfl (by kernel_rfl) Try.func5 (by kernel_rfl)
    (of_decide_eq_true (by kernel_rfl)) (by unfold Func.isWrapper; first | (rw [if_pos (by decide +kernel)]; kernel_rfl) | (rw [if_neg (by decide +kernel)]; exact ⟨rfl, rfl⟩))
    (fun os started H enc _ => groupCuts_lifted os started H enc)

theorem groupCuts_holds : Rows.GroupCutsSaid := groupCuts_over
#print axioms groupCuts_holds
end Go.Proofs.Ytjmlkdopbiedaaa
