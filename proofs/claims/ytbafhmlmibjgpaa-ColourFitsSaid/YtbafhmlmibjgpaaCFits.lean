/-
  The law ColourFits.
-/
import Derived.Test.YtbafhmlmibjgpaaColM
namespace Go.Proofs.Ytbafhmlmibjgpaa
set_option linter.unusedSimpArgs false
set_option linter.unusedVariables false
open Go.ChangeShapes Go.WideShapes Go.ChangeAt Go.RowKit

theorem fit_none {l : List SpV} (ho : OkS l) {rooms : Int} (h : ((colE l).length : Int) ≤ rooms) : fitA l rooms = colO l ∧ fitB l rooms = [] := by
  have e : fitF l rooms = none := find_none _ (fun y hy => by
    obtain ⟨j, _, rfl, _⟩ := htY_mem ho _ (Nat.le_refl _) y hy
    have := cnt_le_col ho (frP l (oL l j))
    simp only [decide_eq_false_iff_not]
    omega)
  unfold fitA fitB
  rw [e]
  exact ⟨rfl, rfl⟩
theorem fit_some {l : List SpV} (ho : OkS l) {R : Nat} (h : R < (colE l).length) : ∃ t i, 0 ≤ i ∧ i < (l.length : Int) ∧ t = frP l i ∧ R + 1 ≤ (onL l t).length ∧ fitA l R = [] ∧ fitB l R = (onL l t).take (R + 1) ∧ ∀ s, s < t → cntP l s ≤ R := by
  obtain ⟨c1, c2⟩ := col_clq ho
  rcases clqL_spec ho with ⟨rfl, e⟩ | ⟨_, ⟨i, i0, i1, e⟩, q2, _⟩
  · exact absurd h (Nat.not_lt_zero _)
  · have hm := htY_at ho i0 i1
    rw [← e] at hm
    cases hf : fitF l R with
    | none =>
      have := List.find?_eq_none.1 hf _ hm
      simp only [decide_eq_true_eq] at this
      omega
    | some y =>
      have h1 := List.find?_some hf
      obtain ⟨j, hj, rfl, _⟩ := htY_mem ho _ (Nat.le_refl _) y (List.mem_of_find?_eq_some hf)
      simp only [decide_eq_true_eq] at h1
      refine ⟨frP l (oL l j), oL l j, (oL_in hj).1, (oL_in hj).2, rfl, by unfold cntP at h1; omega, by unfold fitA; rw [hf], by unfold fitB; rw [hf]; simp, fun s hs => ?_⟩
      obtain ⟨_, pa, pb, hbs, hno⟩ := List.find?_eq_some_iff_append.1 hf
      rcases cnt_start l s with h0 | ⟨k, k0, k1, k2, k3⟩
      · omega
      · have hk := htY_at ho k0 k1
        have hsort := htY_sorted ho _ (Nat.le_refl _)
        rw [hbs] at hk hsort
        rw [List.pairwise_append] at hsort
        rcases List.mem_append.1 hk with hk | hk
        · have := hno _ hk
          simp at this; omega
        · rcases List.mem_cons.1 hk with hk | hk
          · simp only [Prod.mk.injEq] at hk; omega
          · have := (List.pairwise_cons.1 hsort.2.1).1 _ hk
            simp only [] at this; omega
theorem onL_sorted (l : List SpV) (t : Int) : (onL l t).Pairwise (· < ·) := by
  unfold onL onK
  refine List.Pairwise.filter _ ?_
  unfold upto
  rw [List.pairwise_map]
  exact List.pairwise_lt_range.imp (fun h => by simpa using h)

theorem Fits_fit (a : Option Addr) (n cap : Nat) (l : List SpV) (R : Nat) (rooms : Int) (w : World) (hm : n ≤ 3000) (hs : SlP w a n l) (hr0 : rooms = R) (hr1 : rooms ≤ 400) (hE : chkE l = 0) (hA : fitA l rooms = colO l) (hB : fitB l rooms = []) :
    Calls Try.prog 16 #[.slice a n cap, .int .i64 rooms] w fun e w' => ∃ a1 c1 a2 c2, e = .returned (.tuple #[.slice a1 n c1, .slice a2 0 c2, .int .i64 0]) ∧ SlV w' (.slice a1 n c1) (colO l) ∧ Below w.heap.size w w' := by
  have hl := hs.1
  refine (Fits_nat a n cap l R rooms w hm hs hr0 hr1 hE).mono ?_
  rintro e w' ⟨v1, v2, rfl, h1, h2, hb⟩
  rw [hA] at h1
  rw [hB] at h2
  obtain ⟨a1, c1, rfl, h1⟩ := h1.form (m := n) (by rw [colO_length (chkE_ok hE).1, hl])
  obtain ⟨a2, c2, rfl, _⟩ := h2.form (m := 0) rfl
  exact ⟨a1, c1, a2, c2, rfl, h1, hb⟩
theorem Fits_no (a : Option Addr) (n cap : Nat) (l : List SpV) (R : Nat) (rooms : Int) (w : World) (hm : n ≤ 3000) (hs : SlP w a n l) (hr0 : rooms = R) (hr1 : rooms ≤ 400) (hE : chkE l = 0) (Z : List Int) (m : Nat) (hA : fitA l rooms = []) (hB : fitB l rooms = Z) (hZ : Z.length = m) :
    Calls Try.prog 16 #[.slice a n cap, .int .i64 rooms] w fun e w' => ∃ a1 c1 a2 c2, e = .returned (.tuple #[.slice a1 0 c1, .slice a2 m c2, .int .i64 0]) ∧ SlV w' (.slice a2 m c2) Z ∧ Below w.heap.size w w' := by
  refine (Fits_nat a n cap l R rooms w hm hs hr0 hr1 hE).mono ?_
  rintro e w' ⟨v1, v2, rfl, h1, h2, hb⟩
  rw [hA] at h1
  rw [hB] at h2
  obtain ⟨a1, c1, rfl, _⟩ := h1.form (m := 0) rfl
  obtain ⟨a2, c2, rfl, h2⟩ := h2.form hZ
  exact ⟨a1, c1, a2, c2, rfl, h2, hb⟩

set_option maxRecDepth 100000 in
set_option maxHeartbeats 6400000 in
theorem colourFits_walk (a : Option Addr) (n cap : Nat) (l : List SpV) (rooms : Int) (wf : ∀ x ∈ l, SpanWf x) (wt : (Lit.int .u8 rooms).wf = true) (w : World) (h : SlP w a n l ∧ n ≤ cap ∧ cap ≤ maxLen) :
    Calls Try.prog 7 #[.slice a n cap, .int .u8 rooms] w fun e w' => e = .returned (.bool true) ∧ Below w.heap.size w w' := by
  have hn := SlP.cap h
  have HS := Lib.hid h.1
  have HL := Lib.hid h.1.1
  obtain ⟨l0, l1⟩ : 0 ≤ rooms ∧ rooms ≤ 255 := bd_u8 wt
  clear h wf wt
  by_cases hu : usS l = true
  · obtain ⟨h1, h2, h3⟩ := usS_in hu
    have hn100 : n ≤ 100 := by have := HL.out; omega
    obtain ⟨R, hR⟩ := Int.eq_ofNat_of_zero_le l0
    obtain ⟨M, hM⟩ : ∃ M, (colE l).length = M := ⟨_, rfl⟩
    obtain ⟨t, hat⟩ : ∃ t, (clqL l).1 = t := ⟨_, rfl⟩
    have HU := Lib.hid hu
    have HE := Lib.hid h2
    have HO := Lib.hid h3
    have HM := Lib.hid hM
    have HAT := Lib.hid hat
    have HR : Hid (rooms = (R : Int)) := hR
    have hW : IntKind.i64.wrap rooms = rooms := IntWalk.i64_in _ (by omega)
    clear hu h1 h2 h3 hM hat hR
    by_cases hf : (M : Int) ≤ rooms
    · have HF : Hid (fitA l rooms = colO l ∧ fitB l rooms = []) := fit_none HO.out (by rw [HM.out]; exact hf)
      go_enter Try.func7, Try.ntmps7
      go_wp2_with fail
      refine (c_head_any _).mono ?_
      rintro e w1 ⟨rfl, hb1⟩
      have HB1 : Below w.heap.size w w1 := by (repeat' (first | (with_reducible exact Below.refl _ _) | (with_reducible assumption) | (with_reducible exact Bw.out (by with_reducible assumption)) | (with_reducible refine bw_alloc ?_ _) | (with_reducible refine bw_step ?_ (by with_reducible assumption)) | (with_reducible refine Below.alloc ?_ ?_ _) | (with_reducible refine Below.drew ?_) | (with_reducible refine below_drewN ?_ _) | (with_reducible refine Below.setCell ?_ ?_ _) | (with_reducible refine below_step ?_ (by with_reducible assumption) ?_) | (with_reducible exact Nat.le_refl _) | omega | (simp; omega) | (simp; done)))
      go_wp2_with fail
      refine (usable_c a n cap l _ hn (HS.out.below (by (repeat' (first | (with_reducible exact Below.refl _ _) | (with_reducible assumption) | (with_reducible exact Bw.out (by with_reducible assumption)) | (with_reducible refine bw_alloc ?_ _) | (with_reducible refine bw_step ?_ (by with_reducible assumption)) | (with_reducible refine Below.alloc ?_ ?_ _) | (with_reducible refine Below.drew ?_) | (with_reducible refine below_drewN ?_ _) | (with_reducible refine Below.setCell ?_ ?_ _) | (with_reducible refine below_step ?_ (by with_reducible assumption) ?_) | (with_reducible exact Nat.le_refl _) | omega | (simp; omega) | (simp; done))))) true HU.out).mono ?_
      rintro e w2 ⟨rfl, hb2⟩
      have HB2 : Below w.heap.size w w2 := by (repeat' (first | (with_reducible exact Below.refl _ _) | (with_reducible assumption) | (with_reducible exact Bw.out (by with_reducible assumption)) | (with_reducible refine bw_alloc ?_ _) | (with_reducible refine bw_step ?_ (by with_reducible assumption)) | (with_reducible refine Below.alloc ?_ ?_ _) | (with_reducible refine Below.drew ?_) | (with_reducible refine below_drewN ?_ _) | (with_reducible refine Below.setCell ?_ ?_ _) | (with_reducible refine below_step ?_ (by with_reducible assumption) ?_) | (with_reducible exact Nat.le_refl _) | omega | (simp; omega) | (simp; done)))
      clear hb1 HB1
      go_wp2_with fail
      refine (Clique_c a n cap l _ (by omega) (HS.out.below (by (repeat' (first | (with_reducible exact Below.refl _ _) | (with_reducible assumption) | (with_reducible exact Bw.out (by with_reducible assumption)) | (with_reducible refine bw_alloc ?_ _) | (with_reducible refine bw_step ?_ (by with_reducible assumption)) | (with_reducible refine Below.alloc ?_ ?_ _) | (with_reducible refine Below.drew ?_) | (with_reducible refine below_drewN ?_ _) | (with_reducible refine Below.setCell ?_ ?_ _) | (with_reducible refine below_step ?_ (by with_reducible assumption) ?_) | (with_reducible exact Nat.le_refl _) | omega | (simp; omega) | (simp; done))))) HE.out t HAT.out M HM.out).mono ?_
      rintro e w3 ⟨a2, d2, rfl, _, hb3⟩
      have HB3 : Below w.heap.size w w3 := by (repeat' (first | (with_reducible exact Below.refl _ _) | (with_reducible assumption) | (with_reducible exact Bw.out (by with_reducible assumption)) | (with_reducible refine bw_alloc ?_ _) | (with_reducible refine bw_step ?_ (by with_reducible assumption)) | (with_reducible refine Below.alloc ?_ ?_ _) | (with_reducible refine Below.drew ?_) | (with_reducible refine below_drewN ?_ _) | (with_reducible refine Below.setCell ?_ ?_ _) | (with_reducible refine below_step ?_ (by with_reducible assumption) ?_) | (with_reducible exact Nat.le_refl _) | omega | (simp; omega) | (simp; done)))
      clear hb2 HB2
      go_wp2_with fail
      refine (Fits_fit a n cap l R rooms _ (by omega) (HS.out.below (by (repeat' (first | (with_reducible exact Below.refl _ _) | (with_reducible assumption) | (with_reducible exact Bw.out (by with_reducible assumption)) | (with_reducible refine bw_alloc ?_ _) | (with_reducible refine bw_step ?_ (by with_reducible assumption)) | (with_reducible refine Below.alloc ?_ ?_ _) | (with_reducible refine Below.drew ?_) | (with_reducible refine below_drewN ?_ _) | (with_reducible refine Below.setCell ?_ ?_ _) | (with_reducible refine below_step ?_ (by with_reducible assumption) ?_) | (with_reducible exact Nat.le_refl _) | omega | (simp; omega) | (simp; done))))) HR.out (by omega) HE.out HF.out.1 HF.out.2).mono ?_
      rintro e w4 ⟨a3, d3, a4, d4, rfl, V3, hb4⟩
      have HB4 : Below w.heap.size w w4 := by (repeat' (first | (with_reducible exact Below.refl _ _) | (with_reducible assumption) | (with_reducible exact Bw.out (by with_reducible assumption)) | (with_reducible refine bw_alloc ?_ _) | (with_reducible refine bw_step ?_ (by with_reducible assumption)) | (with_reducible refine Below.alloc ?_ ?_ _) | (with_reducible refine Below.drew ?_) | (with_reducible refine below_drewN ?_ _) | (with_reducible refine Below.setCell ?_ ?_ _) | (with_reducible refine below_step ?_ (by with_reducible assumption) ?_) | (with_reducible exact Nat.le_refl _) | omega | (simp; omega) | (simp; done)))
      clear hb3 HB3
      go_wp2_with fail
      refine (Colours_c a n cap l _ (by omega) (HS.out.below (by (repeat' (first | (with_reducible exact Below.refl _ _) | (with_reducible assumption) | (with_reducible exact Bw.out (by with_reducible assumption)) | (with_reducible refine bw_alloc ?_ _) | (with_reducible refine bw_step ?_ (by with_reducible assumption)) | (with_reducible refine Below.alloc ?_ ?_ _) | (with_reducible refine Below.drew ?_) | (with_reducible refine below_drewN ?_ _) | (with_reducible refine Below.setCell ?_ ?_ _) | (with_reducible refine below_step ?_ (by with_reducible assumption) ?_) | (with_reducible exact Nat.le_refl _) | omega | (simp; omega) | (simp; done))))) HE.out M HM.out).mono ?_
      rintro e w5 ⟨a5, d5, rfl, V5, hb5⟩
      replace V3 := V3.step (show Below w4.heap.size w4 w5 by (repeat' (first | (with_reducible exact Below.refl _ _) | (with_reducible assumption) | (with_reducible exact Bw.out (by with_reducible assumption)) | (with_reducible refine bw_alloc ?_ _) | (with_reducible refine bw_step ?_ (by with_reducible assumption)) | (with_reducible refine Below.alloc ?_ ?_ _) | (with_reducible refine Below.drew ?_) | (with_reducible refine below_drewN ?_ _) | (with_reducible refine Below.setCell ?_ ?_ _) | (with_reducible refine below_step ?_ (by with_reducible assumption) ?_) | (with_reducible exact Nat.le_refl _) | omega | (simp; omega) | (simp; done))))
      have HB5 : Below w.heap.size w w5 := by (repeat' (first | (with_reducible exact Below.refl _ _) | (with_reducible assumption) | (with_reducible exact Bw.out (by with_reducible assumption)) | (with_reducible refine bw_alloc ?_ _) | (with_reducible refine bw_step ?_ (by with_reducible assumption)) | (with_reducible refine Below.alloc ?_ ?_ _) | (with_reducible refine Below.drew ?_) | (with_reducible refine below_drewN ?_ _) | (with_reducible refine Below.setCell ?_ ?_ _) | (with_reducible refine below_step ?_ (by with_reducible assumption) ?_) | (with_reducible exact Nat.le_refl _) | omega | (simp; omega) | (simp; done)))
      clear hb4 HB4
      go_wp2_with fail
      refine (R_same_c _ _ (colO l) (colO l) _ V3 V5 true (by simp)).mono ?_
      rintro e w6 ⟨rfl, hb6⟩
      replace V3 := V3.step (show Below w5.heap.size w5 w6 by (repeat' (first | (with_reducible exact Below.refl _ _) | (with_reducible assumption) | (with_reducible exact Bw.out (by with_reducible assumption)) | (with_reducible refine bw_alloc ?_ _) | (with_reducible refine bw_step ?_ (by with_reducible assumption)) | (with_reducible refine Below.alloc ?_ ?_ _) | (with_reducible refine Below.drew ?_) | (with_reducible refine below_drewN ?_ _) | (with_reducible refine Below.setCell ?_ ?_ _) | (with_reducible refine below_step ?_ (by with_reducible assumption) ?_) | (with_reducible exact Nat.le_refl _) | omega | (simp; omega) | (simp; done))))
      have HB6 : Below w.heap.size w w6 := by (repeat' (first | (with_reducible exact Below.refl _ _) | (with_reducible assumption) | (with_reducible exact Bw.out (by with_reducible assumption)) | (with_reducible refine bw_alloc ?_ _) | (with_reducible refine bw_step ?_ (by with_reducible assumption)) | (with_reducible refine Below.alloc ?_ ?_ _) | (with_reducible refine Below.drew ?_) | (with_reducible refine below_drewN ?_ _) | (with_reducible refine Below.setCell ?_ ?_ _) | (with_reducible refine below_step ?_ (by with_reducible assumption) ?_) | (with_reducible exact Nat.le_refl _) | omega | (simp; omega) | (simp; done)))
      clear hb5 HB5
      go_wp2_with fail
      go_ret
      refine ⟨(by first | rfl | exact ret_bool (by first | rfl | (simp; done) | (simp; omega))), ?_⟩
      (repeat' (first | (with_reducible exact Below.refl _ _) | (with_reducible assumption) | (with_reducible exact Bw.out (by with_reducible assumption)) | (with_reducible refine bw_alloc ?_ _) | (with_reducible refine bw_step ?_ (by with_reducible assumption)) | (with_reducible refine Below.alloc ?_ ?_ _) | (with_reducible refine Below.drew ?_) | (with_reducible refine below_drewN ?_ _) | (with_reducible refine Below.setCell ?_ ?_ _) | (with_reducible refine below_step ?_ (by with_reducible assumption) ?_) | (with_reducible exact Nat.le_refl _) | omega | (simp; omega) | (simp; done)))
    · obtain ⟨y, i, i0, i1, hy, hlen, hA, hB, _⟩ := fit_some (R := R) HO.out (by have := HM.out; have := HR.out; omega)
      rw [← HR.out] at hA hB
      have hy01 : 0 ≤ y ∧ y < 1000000000 := by rw [hy]; have := HO.out.at i0 i1; omega
      obtain ⟨y0, y1⟩ := hy01
      obtain ⟨Z, hZ⟩ : ∃ Z, (onL l y).take (R + 1) = Z := ⟨_, rfl⟩
      obtain ⟨R1, hR1⟩ : ∃ R1, R + 1 = R1 := ⟨_, rfl⟩
      have hZl : Z.length = R1 := by rw [← hZ, List.length_take]; omega
      have HZS : Hid (Z.Pairwise (· < ·)) := by show List.Pairwise _ _; rw [← hZ]; exact (onL_sorted l y).sublist (List.take_sublist _ _)
      have HZM : Hid (∀ k ∈ Z, 0 ≤ k ∧ k < l.length ∧ hasP l y k = true) := fun k hk => by
        rw [← hZ] at hk
        exact onL_mem.1 (List.mem_of_mem_take hk)
      rw [hZ] at hB
      have HA := Lib.hid hA
      have HB := Lib.hid hB
      have HZL := Lib.hid hZl
      have hRb : R1 ≤ 256 := by have := HR.out; omega
      have hW1 : IntKind.i64.wrap (rooms + 1) = (R1 : Int) := by rw [IntWalk.i64_in _ (by omega)]; have := HR.out; omega
      clear hy hlen hA hB hZ hZl i0 i1
      go_enter Try.func7, Try.ntmps7
      go_wp2_with fail
      refine (c_head_any _).mono ?_
      rintro e w1 ⟨rfl, hb1⟩
      have HB1 : Below w.heap.size w w1 := by (repeat' (first | (with_reducible exact Below.refl _ _) | (with_reducible assumption) | (with_reducible exact Bw.out (by with_reducible assumption)) | (with_reducible refine bw_alloc ?_ _) | (with_reducible refine bw_step ?_ (by with_reducible assumption)) | (with_reducible refine Below.alloc ?_ ?_ _) | (with_reducible refine Below.drew ?_) | (with_reducible refine below_drewN ?_ _) | (with_reducible refine Below.setCell ?_ ?_ _) | (with_reducible refine below_step ?_ (by with_reducible assumption) ?_) | (with_reducible exact Nat.le_refl _) | omega | (simp; omega) | (simp; done)))
      go_wp2_with fail
      refine (usable_c a n cap l _ hn (HS.out.below (by (repeat' (first | (with_reducible exact Below.refl _ _) | (with_reducible assumption) | (with_reducible exact Bw.out (by with_reducible assumption)) | (with_reducible refine bw_alloc ?_ _) | (with_reducible refine bw_step ?_ (by with_reducible assumption)) | (with_reducible refine Below.alloc ?_ ?_ _) | (with_reducible refine Below.drew ?_) | (with_reducible refine below_drewN ?_ _) | (with_reducible refine Below.setCell ?_ ?_ _) | (with_reducible refine below_step ?_ (by with_reducible assumption) ?_) | (with_reducible exact Nat.le_refl _) | omega | (simp; omega) | (simp; done))))) true HU.out).mono ?_
      rintro e w2 ⟨rfl, hb2⟩
      have HB2 : Below w.heap.size w w2 := by (repeat' (first | (with_reducible exact Below.refl _ _) | (with_reducible assumption) | (with_reducible exact Bw.out (by with_reducible assumption)) | (with_reducible refine bw_alloc ?_ _) | (with_reducible refine bw_step ?_ (by with_reducible assumption)) | (with_reducible refine Below.alloc ?_ ?_ _) | (with_reducible refine Below.drew ?_) | (with_reducible refine below_drewN ?_ _) | (with_reducible refine Below.setCell ?_ ?_ _) | (with_reducible refine below_step ?_ (by with_reducible assumption) ?_) | (with_reducible exact Nat.le_refl _) | omega | (simp; omega) | (simp; done)))
      clear hb1 HB1
      go_wp2_with fail
      refine (Clique_c a n cap l _ (by omega) (HS.out.below (by (repeat' (first | (with_reducible exact Below.refl _ _) | (with_reducible assumption) | (with_reducible exact Bw.out (by with_reducible assumption)) | (with_reducible refine bw_alloc ?_ _) | (with_reducible refine bw_step ?_ (by with_reducible assumption)) | (with_reducible refine Below.alloc ?_ ?_ _) | (with_reducible refine Below.drew ?_) | (with_reducible refine below_drewN ?_ _) | (with_reducible refine Below.setCell ?_ ?_ _) | (with_reducible refine below_step ?_ (by with_reducible assumption) ?_) | (with_reducible exact Nat.le_refl _) | omega | (simp; omega) | (simp; done))))) HE.out t HAT.out M HM.out).mono ?_
      rintro e w3 ⟨a2, d2, rfl, _, hb3⟩
      have HB3 : Below w.heap.size w w3 := by (repeat' (first | (with_reducible exact Below.refl _ _) | (with_reducible assumption) | (with_reducible exact Bw.out (by with_reducible assumption)) | (with_reducible refine bw_alloc ?_ _) | (with_reducible refine bw_step ?_ (by with_reducible assumption)) | (with_reducible refine Below.alloc ?_ ?_ _) | (with_reducible refine Below.drew ?_) | (with_reducible refine below_drewN ?_ _) | (with_reducible refine Below.setCell ?_ ?_ _) | (with_reducible refine below_step ?_ (by with_reducible assumption) ?_) | (with_reducible exact Nat.le_refl _) | omega | (simp; omega) | (simp; done)))
      clear hb2 HB2
      go_wp2_with fail
      refine (Fits_no a n cap l R rooms _ (by omega) (HS.out.below (by (repeat' (first | (with_reducible exact Below.refl _ _) | (with_reducible assumption) | (with_reducible exact Bw.out (by with_reducible assumption)) | (with_reducible refine bw_alloc ?_ _) | (with_reducible refine bw_step ?_ (by with_reducible assumption)) | (with_reducible refine Below.alloc ?_ ?_ _) | (with_reducible refine Below.drew ?_) | (with_reducible refine below_drewN ?_ _) | (with_reducible refine Below.setCell ?_ ?_ _) | (with_reducible refine below_step ?_ (by with_reducible assumption) ?_) | (with_reducible exact Nat.le_refl _) | omega | (simp; omega) | (simp; done))))) HR.out (by omega) HE.out Z R1 HA.out HB.out HZL.out).mono ?_
      rintro e w4 ⟨a3, d3, a4, d4, rfl, V4, hb4⟩
      have HB4 : Below w.heap.size w w4 := by (repeat' (first | (with_reducible exact Below.refl _ _) | (with_reducible assumption) | (with_reducible exact Bw.out (by with_reducible assumption)) | (with_reducible refine bw_alloc ?_ _) | (with_reducible refine bw_step ?_ (by with_reducible assumption)) | (with_reducible refine Below.alloc ?_ ?_ _) | (with_reducible refine Below.drew ?_) | (with_reducible refine below_drewN ?_ _) | (with_reducible refine Below.setCell ?_ ?_ _) | (with_reducible refine below_step ?_ (by with_reducible assumption) ?_) | (with_reducible exact Nat.le_refl _) | omega | (simp; omega) | (simp; done)))
      clear hb3 HB3
      have HV := Lib.hid V4.sli.1
      have HB4 := Lib.hid HB4
      go_wp2_with fail
      go_loopw [15, 16, 83] (fun uf uu ui wr => ∃ (k : Nat) (f u : Int), k ≤ R1 ∧ ui = .int .i64 k ∧ uf = .int .i64 f ∧ uu = .int .i64 u ∧ 0 ≤ f ∧ f ≤ y ∧ y < u ∧ u ≤ 1000000000 ∧ Hid (Below w4.heap.size w4 wr)) (fun _ _ ui _ => R1 - (intOf ui).toNat)
      case atStart => exact ⟨0, 0, 1000000000, Nat.zero_le _, rfl, rfl, rfl, Int.le_refl _, y0, y1, Int.le_refl _, Below.refl _ _⟩
      case round =>
        obtain ⟨k, f, u, hk, rfl, rfl, rfl, f0, f1, u0, u1, hB⟩ := hrel
        have hBw : Hid (Below w.heap.size w wr) := HB4.out.trans (hB.out.mono HB4.out.size)
        by_cases hlt : k < R1
        · obtain ⟨b9, o9, z9, hb9, _, hc9, hz9, _⟩ := (HV.out.below (hB.out)).get hlt
          subst hb9
          have hzm : z9 ∈ Z := by
            rw [← hz9.out]
            have : k < Z.length := by rw [HZL.out]; exact hlt
            simp [List.getD, this]
          obtain ⟨m0, m1, m2⟩ := HZM.out z9 hzm
          obtain ⟨j, rfl⟩ := Int.eq_ofNat_of_zero_le m0
          have hjn : j < n := by have := HL.out; omega
          obtain ⟨fj, uj, bl, ol, hx, _, _, ha, hb, c0, c1⟩ := (HS.out.below hBw.out).get hjn
          subst ha
          have m3 : fj ≤ y ∧ y < uj := by
            simp only [hasP, frP, unP, Int.toNat_natCast, hx.out, Bool.and_eq_true, decide_eq_true_eq] at m2
            exact m2
          obtain ⟨m4, m5⟩ := m3
          have ji1 : (0 : Int) ≤ (j : Int) := by omega
          have ji2 : (j : Int) < (n : Int) := by omega
          have k1 : (0 : Int) ≤ (k : Int) := by omega
          have k2 : (k : Int) < (R1 : Int) := by omega
          clear m0 m1 m2 hx hzm
          rcases Nat.eq_zero_or_pos k with rfl | hkp
          · rw [Nat.add_zero] at hc9
            go_wp2_with fail
            refine AnyJ.beginP (fun w' : World => w'.cell? ⟨bl, ol + j * 2, none⟩ = some (.int .i64 fj) ∧ w'.cell? ⟨bl, ol + j * 2 + 1, none⟩ = some (.int .i64 uj)) (fun _ => true) (by kernel_rfl) ⟨c0, c1⟩ (fun hS => ?_)
            refine AnyJ.takeD (i := 0) (d := some 109) (v := ?_) rfl (by kernel_rfl) (by kernel_rfl) (by kernel_rfl) (by kernel_rfl) (by kernel_rfl) (fun _ _ _ h => h) (Or.inl ⟨by kernel_rfl, ?_⟩) hS ?_
            rotate_left
            · intro w' hS
              obtain ⟨sF0, sF1⟩ := hS
              go_simp
              try with_reducible rfl
            refine AnyJ.takeD (i := 1) (d := some 110) (v := ?_) rfl (by kernel_rfl) (by kernel_rfl) (by kernel_rfl) (by kernel_rfl) (by kernel_rfl) (fun _ _ _ h => h) (Or.inl ⟨by kernel_rfl, ?_⟩) hS ?_
            rotate_left
            · intro w' hS
              obtain ⟨sF0, sF1⟩ := hS
              go_simp
              try with_reducible rfl
            refine AnyJ.takeD (i := 2) (d := some 111) (v := ?_) rfl (by kernel_rfl) (by kernel_rfl) (by kernel_rfl) (by kernel_rfl) (by kernel_rfl) (fun _ _ _ h => h) (Or.inl ⟨by kernel_rfl, ?_⟩) hS ?_
            rotate_left
            · intro w' hS
              obtain ⟨sF0, sF1⟩ := hS
              go_simp
              try with_reducible rfl
            refine AnyJ.takeD (i := 3) (d := some 112) (v := ?_) rfl (by kernel_rfl) (by kernel_rfl) (by kernel_rfl) (by kernel_rfl) (by kernel_rfl) (fun _ _ _ h => h) (Or.inl ⟨by kernel_rfl, ?_⟩) hS ?_
            rotate_left
            · intro w' hS
              obtain ⟨sF0, sF1⟩ := hS
              go_simp
              try with_reducible rfl
            refine AnyJ.takeD (i := 4) (d := some 113) (v := ?_) rfl (by kernel_rfl) (by kernel_rfl) (by kernel_rfl) (by kernel_rfl) (by kernel_rfl) (fun _ _ _ h => h) (Or.inl ⟨by kernel_rfl, ?_⟩) hS ?_
            rotate_left
            · intro w' hS
              obtain ⟨sF0, sF1⟩ := hS
              go_simp
              try with_reducible rfl
            refine AnyJ.takeD (i := 5) (d := some 114) (v := ?_) rfl (by kernel_rfl) (by kernel_rfl) (by kernel_rfl) (by kernel_rfl) (by kernel_rfl) (fun _ _ _ h => h) (Or.inl ⟨by kernel_rfl, ?_⟩) hS ?_
            rotate_left
            · intro w' hS
              obtain ⟨sF0, sF1⟩ := hS
              go_simp
              try with_reducible rfl
            refine AnyJ.takeD (i := 6) (d := some 115) (v := ?_) rfl (by kernel_rfl) (by kernel_rfl) (by kernel_rfl) (by kernel_rfl) (by kernel_rfl) (fun _ _ _ h => h) (Or.inl ⟨by kernel_rfl, ?_⟩) hS ?_
            rotate_left
            · intro w' hS
              obtain ⟨sF0, sF1⟩ := hS
              go_simp
              try with_reducible rfl
            refine AnyJ.takeD (i := 7) (d := some 116) (v := ?_) rfl (by kernel_rfl) (by kernel_rfl) (by kernel_rfl) (by kernel_rfl) (by kernel_rfl) (fun _ _ _ h => h) (Or.inl ⟨by kernel_rfl, ?_⟩) hS ?_
            rotate_left
            · intro w' hS
              obtain ⟨sF0, sF1⟩ := hS
              go_simp
              try with_reducible rfl
            refine AnyJ.takeD (i := 8) (d := some 117) (v := ?_) rfl (by kernel_rfl) (by kernel_rfl) (by kernel_rfl) (by kernel_rfl) (by kernel_rfl) (fun _ _ _ h => h) (Or.inl ⟨by kernel_rfl, ?_⟩) hS ?_
            rotate_left
            · intro w' hS
              obtain ⟨sF0, sF1⟩ := hS
              go_simp
              try with_reducible rfl
            refine AnyJ.takeD (i := 9) (d := some 118) (v := ?_) rfl (by kernel_rfl) (by kernel_rfl) (by kernel_rfl) (by kernel_rfl) (by kernel_rfl) (fun _ _ _ h => h) (Or.inl ⟨by kernel_rfl, ?_⟩) hS ?_
            rotate_left
            · intro w' hS
              obtain ⟨sF0, sF1⟩ := hS
              go_simp
              try with_reducible rfl
            refine AnyJ.takeD (i := 10) (d := some 119) (v := ?_) rfl (by kernel_rfl) (by kernel_rfl) (by kernel_rfl) (by kernel_rfl) (by kernel_rfl) (fun _ _ _ h => h) (Or.inl ⟨by kernel_rfl, ?_⟩) hS ?_
            rotate_left
            · intro w' hS
              obtain ⟨sF0, sF1⟩ := hS
              go_simp
              try with_reducible rfl
            refine AnyJ.takeD (i := 11) (d := some 120) (v := ?_) rfl (by kernel_rfl) (by kernel_rfl) (by kernel_rfl) (by kernel_rfl) (by kernel_rfl) (fun _ _ _ h => h) (Or.inl ⟨by kernel_rfl, ?_⟩) hS ?_
            rotate_left
            · intro w' hS
              obtain ⟨sF0, sF1⟩ := hS
              go_simp
              try with_reducible rfl
            refine AnyJ.takeD (i := 12) (d := some 121) (v := ?_) rfl (by kernel_rfl) (by kernel_rfl) (by kernel_rfl) (by kernel_rfl) (by kernel_rfl) (fun _ _ _ h => h) (Or.inl ⟨by kernel_rfl, ?_⟩) hS ?_
            rotate_left
            · intro w' hS
              obtain ⟨sF0, sF1⟩ := hS
              go_simp
              try with_reducible rfl
            refine AnyJ.takeD (i := 13) (d := some 122) (v := ?_) rfl (by kernel_rfl) (by kernel_rfl) (by kernel_rfl) (by kernel_rfl) (by kernel_rfl) (fun _ _ _ h => h) (Or.inl ⟨by kernel_rfl, ?_⟩) hS ?_
            rotate_left
            · intro w' hS
              obtain ⟨sF0, sF1⟩ := hS
              go_simp
              try with_reducible rfl
            refine AnyJ.takeD (i := 14) (d := some 15) (v := ?_) rfl (by kernel_rfl) (by kernel_rfl) (by kernel_rfl) (by kernel_rfl) (by kernel_rfl) (fun _ _ _ h => h) (Or.inl ⟨by kernel_rfl, ?_⟩) hS ?_
            rotate_left
            · intro w' hS
              obtain ⟨sF0, sF1⟩ := hS
              go_simp
              try with_reducible rfl
            refine AnyJ.takeD (i := 15) (d := some 16) (v := ?_) rfl (by kernel_rfl) (by kernel_rfl) (by kernel_rfl) (by kernel_rfl) (by kernel_rfl) (fun _ _ _ h => h) (Or.inl ⟨by kernel_rfl, ?_⟩) hS ?_
            rotate_left
            · intro w' hS
              obtain ⟨sF0, sF1⟩ := hS
              go_simp
              try with_reducible rfl
            refine AnyJ.done (by kernel_rfl) ?_ _
            try simp only [Act.put, List.setIfInBounds_toArray, List.set_cons_zero, List.set_cons_succ]
            go_wp2_with fail
            refine ⟨⟨0 + 1, _, _, by omega, by rfl, rfl, rfl, ?_, ?_, ?_, ?_, hB.out.drew⟩, ?_⟩
            · split <;> omega
            · split <;> omega
            · split <;> omega
            · split <;> omega
            · simp [intOf]; try omega
          · obtain ⟨q, rfl⟩ : ∃ q, k = q + 1 := ⟨k - 1, by omega⟩
            obtain ⟨b8, o8, z8, hb8, _, hc8, hz8, _⟩ := (HV.out.below (hB.out)).get (show q < R1 by omega)
            cases hb8
            have hlt8 : z8 < (j : Int) := by
              have hp := HZS.out
              rw [List.pairwise_iff_getElem] at hp
              have a1 : q < Z.length := by rw [HZL.out]; omega
              have a2 : q + 1 < Z.length := by rw [HZL.out]; omega
              have := hp q (q + 1) a1 a2 (by omega)
              have e1 := hz8.out
              have e2 := hz9.out
              simp [List.getD, a1] at e1
              simp [List.getD, a2] at e2
              omega
            have hle8 : ¬ (j : Int) ≤ z8 := by omega
            have q1 : (0 : Int) ≤ (q : Int) := by omega
            have q2 : (q : Int) < (R1 : Int) := by omega
            have q3 : (0 : Int) < (q : Int) + 1 := by omega
            go_wp2_with fail
            refine AnyJ.beginP (fun w' : World => w'.cell? ⟨bl, ol + j * 2, none⟩ = some (.int .i64 fj) ∧ w'.cell? ⟨bl, ol + j * 2 + 1, none⟩ = some (.int .i64 uj)) (fun _ => true) (by kernel_rfl) ⟨c0, c1⟩ (fun hS => ?_)
            refine AnyJ.takeD (i := 0) (d := some 109) (v := ?_) rfl (by kernel_rfl) (by kernel_rfl) (by kernel_rfl) (by kernel_rfl) (by kernel_rfl) (fun _ _ _ h => h) (Or.inl ⟨by kernel_rfl, ?_⟩) hS ?_
            rotate_left
            · intro w' hS
              obtain ⟨sF0, sF1⟩ := hS
              go_simp
              try with_reducible rfl
            refine AnyJ.takeD (i := 1) (d := some 110) (v := ?_) rfl (by kernel_rfl) (by kernel_rfl) (by kernel_rfl) (by kernel_rfl) (by kernel_rfl) (fun _ _ _ h => h) (Or.inl ⟨by kernel_rfl, ?_⟩) hS ?_
            rotate_left
            · intro w' hS
              obtain ⟨sF0, sF1⟩ := hS
              go_simp
              try with_reducible rfl
            refine AnyJ.takeD (i := 2) (d := some 111) (v := ?_) rfl (by kernel_rfl) (by kernel_rfl) (by kernel_rfl) (by kernel_rfl) (by kernel_rfl) (fun _ _ _ h => h) (Or.inl ⟨by kernel_rfl, ?_⟩) hS ?_
            rotate_left
            · intro w' hS
              obtain ⟨sF0, sF1⟩ := hS
              go_simp
              try with_reducible rfl
            refine AnyJ.takeD (i := 3) (d := some 112) (v := ?_) rfl (by kernel_rfl) (by kernel_rfl) (by kernel_rfl) (by kernel_rfl) (by kernel_rfl) (fun _ _ _ h => h) (Or.inl ⟨by kernel_rfl, ?_⟩) hS ?_
            rotate_left
            · intro w' hS
              obtain ⟨sF0, sF1⟩ := hS
              go_simp
              try with_reducible rfl
            refine AnyJ.takeD (i := 4) (d := some 113) (v := ?_) rfl (by kernel_rfl) (by kernel_rfl) (by kernel_rfl) (by kernel_rfl) (by kernel_rfl) (fun _ _ _ h => h) (Or.inl ⟨by kernel_rfl, ?_⟩) hS ?_
            rotate_left
            · intro w' hS
              obtain ⟨sF0, sF1⟩ := hS
              go_simp
              try with_reducible rfl
            refine AnyJ.takeD (i := 5) (d := some 114) (v := ?_) rfl (by kernel_rfl) (by kernel_rfl) (by kernel_rfl) (by kernel_rfl) (by kernel_rfl) (fun _ _ _ h => h) (Or.inl ⟨by kernel_rfl, ?_⟩) hS ?_
            rotate_left
            · intro w' hS
              obtain ⟨sF0, sF1⟩ := hS
              go_simp
              try with_reducible rfl
            refine AnyJ.takeD (i := 6) (d := some 115) (v := ?_) rfl (by kernel_rfl) (by kernel_rfl) (by kernel_rfl) (by kernel_rfl) (by kernel_rfl) (fun _ _ _ h => h) (Or.inl ⟨by kernel_rfl, ?_⟩) hS ?_
            rotate_left
            · intro w' hS
              obtain ⟨sF0, sF1⟩ := hS
              go_simp
              try with_reducible rfl
            refine AnyJ.takeD (i := 7) (d := some 116) (v := ?_) rfl (by kernel_rfl) (by kernel_rfl) (by kernel_rfl) (by kernel_rfl) (by kernel_rfl) (fun _ _ _ h => h) (Or.inl ⟨by kernel_rfl, ?_⟩) hS ?_
            rotate_left
            · intro w' hS
              obtain ⟨sF0, sF1⟩ := hS
              go_simp
              try with_reducible rfl
            refine AnyJ.takeD (i := 8) (d := some 117) (v := ?_) rfl (by kernel_rfl) (by kernel_rfl) (by kernel_rfl) (by kernel_rfl) (by kernel_rfl) (fun _ _ _ h => h) (Or.inl ⟨by kernel_rfl, ?_⟩) hS ?_
            rotate_left
            · intro w' hS
              obtain ⟨sF0, sF1⟩ := hS
              go_simp
              try with_reducible rfl
            refine AnyJ.takeD (i := 9) (d := some 118) (v := ?_) rfl (by kernel_rfl) (by kernel_rfl) (by kernel_rfl) (by kernel_rfl) (by kernel_rfl) (fun _ _ _ h => h) (Or.inl ⟨by kernel_rfl, ?_⟩) hS ?_
            rotate_left
            · intro w' hS
              obtain ⟨sF0, sF1⟩ := hS
              go_simp
              try with_reducible rfl
            refine AnyJ.takeD (i := 10) (d := some 119) (v := ?_) rfl (by kernel_rfl) (by kernel_rfl) (by kernel_rfl) (by kernel_rfl) (by kernel_rfl) (fun _ _ _ h => h) (Or.inl ⟨by kernel_rfl, ?_⟩) hS ?_
            rotate_left
            · intro w' hS
              obtain ⟨sF0, sF1⟩ := hS
              go_simp
              try with_reducible rfl
            refine AnyJ.takeD (i := 11) (d := some 120) (v := ?_) rfl (by kernel_rfl) (by kernel_rfl) (by kernel_rfl) (by kernel_rfl) (by kernel_rfl) (fun _ _ _ h => h) (Or.inl ⟨by kernel_rfl, ?_⟩) hS ?_
            rotate_left
            · intro w' hS
              obtain ⟨sF0, sF1⟩ := hS
              go_simp
              try with_reducible rfl
            refine AnyJ.takeD (i := 12) (d := some 121) (v := ?_) rfl (by kernel_rfl) (by kernel_rfl) (by kernel_rfl) (by kernel_rfl) (by kernel_rfl) (fun _ _ _ h => h) (Or.inl ⟨by kernel_rfl, ?_⟩) hS ?_
            rotate_left
            · intro w' hS
              obtain ⟨sF0, sF1⟩ := hS
              go_simp
              try with_reducible rfl
            refine AnyJ.takeD (i := 13) (d := some 122) (v := ?_) rfl (by kernel_rfl) (by kernel_rfl) (by kernel_rfl) (by kernel_rfl) (by kernel_rfl) (fun _ _ _ h => h) (Or.inl ⟨by kernel_rfl, ?_⟩) hS ?_
            rotate_left
            · intro w' hS
              obtain ⟨sF0, sF1⟩ := hS
              go_simp
              try with_reducible rfl
            refine AnyJ.takeD (i := 14) (d := some 15) (v := ?_) rfl (by kernel_rfl) (by kernel_rfl) (by kernel_rfl) (by kernel_rfl) (by kernel_rfl) (fun _ _ _ h => h) (Or.inl ⟨by kernel_rfl, ?_⟩) hS ?_
            rotate_left
            · intro w' hS
              obtain ⟨sF0, sF1⟩ := hS
              go_simp
              try with_reducible rfl
            refine AnyJ.takeD (i := 15) (d := some 16) (v := ?_) rfl (by kernel_rfl) (by kernel_rfl) (by kernel_rfl) (by kernel_rfl) (by kernel_rfl) (fun _ _ _ h => h) (Or.inl ⟨by kernel_rfl, ?_⟩) hS ?_
            rotate_left
            · intro w' hS
              obtain ⟨sF0, sF1⟩ := hS
              go_simp
              try with_reducible rfl
            refine AnyJ.done (by kernel_rfl) ?_ _
            try simp only [Act.put, List.setIfInBounds_toArray, List.set_cons_zero, List.set_cons_succ]
            go_wp2_with fail
            refine ⟨⟨(q + 1) + 1, _, _, by omega, by go_num, rfl, rfl, ?_, ?_, ?_, ?_, hB.out.drew⟩, ?_⟩
            · split <;> omega
            · split <;> omega
            · split <;> omega
            · split <;> omega
            · simp [intOf]; try omega
        · obtain rfl : R1 = k := by omega
          have fu : f < u := by omega
          go_wp2_with fail
          go_ret
          exact ⟨rfl, hBw.out⟩
  · have HU := Lib.hid (show usS l = false by simpa using hu)
    clear hu
    go_enter Try.func7, Try.ntmps7
    go_wp2_with fail
    refine (c_head_any _).mono ?_
    rintro e w1 ⟨rfl, hb1⟩
    have HB1 : Below w.heap.size w w1 := by (repeat' (first | (with_reducible exact Below.refl _ _) | (with_reducible assumption) | (with_reducible exact Bw.out (by with_reducible assumption)) | (with_reducible refine bw_alloc ?_ _) | (with_reducible refine bw_step ?_ (by with_reducible assumption)) | (with_reducible refine Below.alloc ?_ ?_ _) | (with_reducible refine Below.drew ?_) | (with_reducible refine below_drewN ?_ _) | (with_reducible refine Below.setCell ?_ ?_ _) | (with_reducible refine below_step ?_ (by with_reducible assumption) ?_) | (with_reducible exact Nat.le_refl _) | omega | (simp; omega) | (simp; done)))
    go_wp2_with fail
    refine (usable_c a n cap l _ hn (HS.out.below (by (repeat' (first | (with_reducible exact Below.refl _ _) | (with_reducible assumption) | (with_reducible exact Bw.out (by with_reducible assumption)) | (with_reducible refine bw_alloc ?_ _) | (with_reducible refine bw_step ?_ (by with_reducible assumption)) | (with_reducible refine Below.alloc ?_ ?_ _) | (with_reducible refine Below.drew ?_) | (with_reducible refine below_drewN ?_ _) | (with_reducible refine Below.setCell ?_ ?_ _) | (with_reducible refine below_step ?_ (by with_reducible assumption) ?_) | (with_reducible exact Nat.le_refl _) | omega | (simp; omega) | (simp; done))))) false HU.out).mono ?_
    rintro e w2 ⟨rfl, hb2⟩
    have HB2 : Below w.heap.size w w2 := by (repeat' (first | (with_reducible exact Below.refl _ _) | (with_reducible assumption) | (with_reducible exact Bw.out (by with_reducible assumption)) | (with_reducible refine bw_alloc ?_ _) | (with_reducible refine bw_step ?_ (by with_reducible assumption)) | (with_reducible refine Below.alloc ?_ ?_ _) | (with_reducible refine Below.drew ?_) | (with_reducible refine below_drewN ?_ _) | (with_reducible refine Below.setCell ?_ ?_ _) | (with_reducible refine below_step ?_ (by with_reducible assumption) ?_) | (with_reducible exact Nat.le_refl _) | omega | (simp; omega) | (simp; done)))
    clear hb1 HB1
    go_wp2_with fail
    go_ret
    refine ⟨(by first | rfl | exact ret_bool (by first | rfl | (simp; done) | (simp; omega))), ?_⟩
    (repeat' (first | (with_reducible exact Below.refl _ _) | (with_reducible assumption) | (with_reducible exact Bw.out (by with_reducible assumption)) | (with_reducible refine bw_alloc ?_ _) | (with_reducible refine bw_step ?_ (by with_reducible assumption)) | (with_reducible refine Below.alloc ?_ ?_ _) | (with_reducible refine Below.drew ?_) | (with_reducible refine below_drewN ?_ _) | (with_reducible refine Below.setCell ?_ ?_ _) | (with_reducible refine below_step ?_ (by with_reducible assumption) ?_) | (with_reducible exact Nat.le_refl _) | omega | (simp; omega) | (simp; done)))


set_option maxRecDepth 100000 in
theorem colourFits_lifted (os : Os) (started : os.Started) (H : Type) (enc : TypeId × Value → H) :
    ReturnsInHanded {} Try.checked os 7 .any (Rows.colourFitsSpec.pre6 enc Try.prog Try.f7 Rows.colourFitsRow.domain false) (Rows.colourFitsSpec.post enc Try.prog Try.f7 false true false false) := by
  refine returnsInHanded_of_change (C := Try.checked) own started (by kernel_rfl) Try.func7
    (ChangeSpec.witness6 (enc := enc) (C := Try.checked) false ⟨#[], #[.slice none 0 0, .int .u8 0], []⟩ 8 (by kernel_rfl) (by kernel_rfl) (by kernel_rfl) (by kernel_rfl)) ?_
  intro W base args ds gs before hval0 hW _ _
  have hval : ∀ (j : Nat) t v, Try.f7.params[j]? = some t → args[j]? = some v → Value.okWide Try.prog W .any base t v := hval0
  have hW' := hW
  obtain ⟨p, q, hA0, hV, rfl, hfz, hnd⟩ := hW
  obtain ⟨rfl, rfl⟩ := trodVars_none hV
  have hA : DataW.TrodAll enc Try.prog W 0 (fun _ => true) true Try.f7.params.toList args.toList ds p := hA0
  rw [Try.params7] at hA hval
  obtain ⟨v0, vs0, d0, ds0, p0, q0, hargs, rfl, rfl, h0, r0⟩ := trodAll_cons hA
  obtain ⟨v1, vs1, d1, ds1, p1, q1, rfl, rfl, rfl, h1, r1⟩ := trodAll_cons r0
  obtain ⟨rfl, rfl, rfl⟩ := trodAll_nil r1
  obtain rfl : args = #[v0, v1] := by cases args; simp_all
  obtain ⟨a0_l, n0_l, c0_l, rfl⟩ := okWide_slice Try.underlying22 (hval 0 22 v0 rfl rfl)
  obtain ⟨fu_l, hf_l⟩ := h0
  obtain ⟨a_l, n_l, c_l, l_l, e_l, g1_l, g2_l, hs_l, wf_l⟩ := slp_of_spans (by simpa [Value.cells] using hf_l)
  cases e_l
  obtain ⟨rooms, rfl, rfl, rfl, wrooms⟩ := open_int Try.underlying5 (hval 1 5 v1 rfl rfl) h1
  clear hA0 hval0
  refine (colourFits_walk _ _ _ l_l rooms wf_l wrooms W ⟨hs_l, g1_l, g2_l⟩).mono fun e W' ⟨he, hb⟩ => ?_
  subst he
  exact ⟨_, rfl, law_post (B := 4) laidOut (by rw [Try.params7]; simp only [List.mem_cons, List.not_mem_nil, or_false, forall_eq_or_imp, forall_eq]; first | exact readable_colourFits | (repeat' apply And.intro) <;> first | exact of_decide_eq_true (by kernel_rfl) | kernel_rfl) rfl Try.underlying4 rfl rfl hW' hb⟩

theorem colourFits_over : Rows.colourFitsRow.holds Try.pinned (OpenSpec.ofChange Rows.colourFitsSpec) :=
  OpenClaim.holds_of_wide 7 Try.f7 rfl rfl rfl rfl rfl rfl rfl ⟨rfl, rfl, rfl, rfl, rfl⟩ rfl rfl rfl rfl rfl (by kernel_rfl) Try.func7 (by kernel_rfl)
    (of_decide_eq_true (by kernel_rfl)) (by unfold Func.isWrapper; first | (rw [if_pos (by decide +kernel)]; kernel_rfl) | (rw [if_neg (by decide +kernel)]; exact ⟨rfl, rfl⟩))
    (fun os started H enc _ => colourFits_lifted os started H enc)

theorem colourFits_holds : Rows.ColourFitsSaid := colourFits_over
#print axioms colourFits_holds
end Go.Proofs.Ytbafhmlmibjgpaa
