/-
  The reference of scene, third part: scene, Valid; law25's usable.
-/
import Derived.Test.YtdijdfhlmnhcjaaScnN
import Derived.BigQuiet
namespace Go.Proofs.Ytdijdfhlmnhcjaa
set_option linter.unusedSimpArgs false
set_option linter.unusedVariables false
open Go.RowKit Go.MapKept

def scnB (l : List NightV) (nt wd : Int) (zs ys : List Int) : Bool := inR nt 0 ((l.length : Int) - 1) && (decide (ys.length = zs.length) && (inR wd 0 100000 && cutB (shAt l nt.toNat) zs ys))
theorem openB_scn (l : List NightV) (nt wd : Int) (zs ys : List Int) : openB l nt wd zs ys = (nightsB l && scnB l nt wd zs ys) := rfl
theorem scnB_false {l : List NightV} {nt wd : Int} {zs ys : List Int} (h : inR nt 0 ((l.length : Int) - 1) = false ∨ ys.length ≠ zs.length ∨ inR wd 0 100000 = false ∨ cutB (shAt l nt.toNat) zs ys = false) : scnB l nt wd zs ys = false := by
  unfold scnB
  rcases h with h | h | h | h <;> simp [h]
theorem inR_lo {n lo hi : Int} (h : n < lo) : inR n lo hi = false := inR_no.2 (by omega)
theorem inR_hi {n lo hi : Int} (h : hi < n) : inR n lo hi = false := inR_no.2 (by omega)
theorem mem_take_getD {zs : List Int} {j k : Nat} (hj : j < k) (hk : k ≤ zs.length) : zs.getD j 0 ∈ zs.take k := by
  rw [List.getD_eq_getElem?_getD, List.getElem?_eq_getElem (by omega : j < zs.length), Option.getD_some]
  exact List.mem_take_iff_getElem.2 ⟨j, by omega, rfl⟩

set_option maxRecDepth 100000 in
set_option maxHeartbeats 6400000 in
theorem R_scene25 (a : Option Addr) (n cap : Nat) (l : List NightV) (nt wd : Int) (ac : Option Addr) (nc cc : Nat) (zs : List Int) (as' : Option Addr) (ns cs : Nat) (ys : List Int) (w : World)
    (hn : n ≤ 9223372036854775807) (hnc : nc ≤ 9223372036854775807) (hns : ns ≤ 9223372036854775807) (hs : SlN w a n l) (hz : SlI w ac nc zs) (hy : SlI w as' ns ys) (b : Bool) (hb : scnB l nt wd zs ys = b) :
    Calls Try.prog 29 #[.slice a n cap, .agg #[.int .i64 nt, .int .i64 wd, .slice ac nc cc, .slice as' ns cs]] w fun e w' => e = .returned (.bool b) ∧ Below w.heap.size w w' := by
  have HS := Lib.hid hs
  have HZ := Lib.hid hz
  have HY := Lib.hid hy
  have HL := Lib.hid hs.1
  have HZL := Lib.hid hz.1
  have HYL := Lib.hid hy.1
  have HB := Lib.hid hb
  clear hs hz hy hb
  by_cases h1 : nt < 0
  ·
    have hbf : b = false := by rw [← HB.out]; exact scnB_false (Or.inl (inR_lo h1))
    subst hbf
    clear HS HZ HY HL HZL HYL
    go_enter Try.func29, Try.ntmps29
    go_wp2_with fail
    go_ret
    exact ⟨rfl, by (repeat' (first | (with_reducible exact Below.refl _ _) | (with_reducible assumption) | (with_reducible exact Bw.out (by with_reducible assumption)) | (with_reducible refine bw_alloc ?_ _) | (with_reducible refine bw_step ?_ (by with_reducible assumption)) | (with_reducible refine Below.alloc ?_ ?_ _) | (with_reducible refine Below.drew ?_) | (with_reducible refine below_drewN ?_ _) | (with_reducible refine Below.setCell ?_ ?_ _) | (with_reducible refine below_step ?_ (by with_reducible assumption) ?_) | (with_reducible exact Nat.le_refl _) | omega | (simp; omega) | (simp; done)))⟩
  · by_cases h2 : (n : Int) ≤ nt
    ·
      have hbf : b = false := by rw [← HB.out]; exact scnB_false (Or.inl (inR_hi (by rw [HL.out]; omega)))
      subst hbf
      clear HS HZ HY HL HZL HYL
      go_enter Try.func29, Try.ntmps29
      go_wp2_with fail
      go_ret
      exact ⟨rfl, by (repeat' (first | (with_reducible exact Below.refl _ _) | (with_reducible assumption) | (with_reducible exact Bw.out (by with_reducible assumption)) | (with_reducible refine bw_alloc ?_ _) | (with_reducible refine bw_step ?_ (by with_reducible assumption)) | (with_reducible refine Below.alloc ?_ ?_ _) | (with_reducible refine Below.drew ?_) | (with_reducible refine below_drewN ?_ _) | (with_reducible refine Below.setCell ?_ ?_ _) | (with_reducible refine below_step ?_ (by with_reducible assumption) ?_) | (with_reducible exact Nat.le_refl _) | omega | (simp; omega) | (simp; done)))⟩
    · have h2' : nt < (n : Int) := by omega
      by_cases h3 : ns = nc
      · have h3a : ((ns : Int) != (nc : Int)) = false := by simp [h3]
        have h3b : (ns != nc) = false := by simp [h3]
        have H3 := Lib.hid h3
        clear h3
        cases h4 : inR wd 0 100000 with
        | false =>
          have hbf : b = false := by rw [← HB.out]; exact scnB_false (Or.inr (Or.inr (Or.inl h4)))
          subst hbf
          clear HS HZ HY HL HZL HYL
          go_enter Try.func29, Try.ntmps29
          go_wp2_with fail
          refine (R_in25 _ _ _ _ false h4).mono ?_
          rintro e w' ⟨rfl, rfl⟩
          go_wp2_with fail
          go_ret
          exact ⟨rfl, by (repeat' (first | (with_reducible exact Below.refl _ _) | (with_reducible assumption) | (with_reducible exact Bw.out (by with_reducible assumption)) | (with_reducible refine bw_alloc ?_ _) | (with_reducible refine bw_step ?_ (by with_reducible assumption)) | (with_reducible refine Below.alloc ?_ ?_ _) | (with_reducible refine Below.drew ?_) | (with_reducible refine below_drewN ?_ _) | (with_reducible refine Below.setCell ?_ ?_ _) | (with_reducible refine below_step ?_ (by with_reducible assumption) ?_) | (with_reducible exact Nat.le_refl _) | omega | (simp; omega) | (simp; done)))⟩
        | true =>
          obtain ⟨i, rfl⟩ := Int.eq_ofNat_of_zero_le (show 0 ≤ nt by omega)
          have hin : i < n := by omega
          go_enter Try.func29, Try.ntmps29
          go_wp2_with fail
          refine (R_in25 _ _ _ _ true h4).mono ?_
          rintro e w1 ⟨rfl, rfl⟩
          have R1 : Row (w.alloc (.cells #[.int .i64 (i : Int), .int .i64 wd, .slice ac nc cc, .slice as' ns cs] 25)) w.heap.size [.int .i64 (i : Int), .int .i64 wd, .slice ac nc cc, .slice as' ns cs] := Row.new' _ _ _ rfl
          have hal : Below w.heap.size w (w.alloc (.cells #[.int .i64 (i : Int), .int .i64 wd, .slice ac nc cc, .slice as' ns cs] 25)) := by (repeat' (first | (with_reducible exact Below.refl _ _) | (with_reducible assumption) | (with_reducible exact Bw.out (by with_reducible assumption)) | (with_reducible refine bw_alloc ?_ _) | (with_reducible refine bw_step ?_ (by with_reducible assumption)) | (with_reducible refine Below.alloc ?_ ?_ _) | (with_reducible refine Below.drew ?_) | (with_reducible refine below_drewN ?_ _) | (with_reducible refine Below.setCell ?_ ?_ _) | (with_reducible refine below_step ?_ (by with_reducible assumption) ?_) | (with_reducible exact Nat.le_refl _) | omega | (simp; omega) | (simp; done)))
          obtain ⟨w2, hw2⟩ : ∃ W, w.alloc (.cells #[.int .i64 (i : Int), .int .i64 wd, .slice ac nc cc, .slice as' ns cs] 25) = W := ⟨_, rfl⟩
          rw [hw2] at R1 hal
          try rw [hw2]
          obtain ⟨g2, hg2⟩ : ∃ g, w.heap.size = g := ⟨_, rfl⟩
          rw [hg2] at R1
          try rw [hg2]
          have HR1 := Lib.hid R1
          have HB1 := Lib.hid hal
          obtain ⟨x, bb, off, hx, _, hxin, rfl, hbb, c0, c1, c2⟩ := (HS.out.below HB1.out).get hin
          have HSA : Hid (shAt l ((i : Int)).toNat = x.zs) := by show _ = _; rw [Int.toNat_natCast]; exact shAt_get hx
          have HSI := Lib.hid hxin.2
          have HSN := Lib.hid hxin.2.1
          have hsn : x.n ≤ 9223372036854775807 := hxin.1
          obtain ⟨rm, sd, sa, sn, sc, sz⟩ := x
          simp only [] at c0 c1 c2 HSA HSI HSN hsn
          have i1 : (0 : Int) ≤ (i : Int) := by omega
          have i2 : (i : Int) < (n : Int) := by omega
          have q0 := R1.cell 0 rfl
          have q2 := R1.cell 2 rfl
          have q3 := R1.cell 3 rfl
          have lq := R1.lt
          have H4 := Lib.hid h4
          clear h1 h2 h2' h3a h3b h4 hx hxin hw2 hal hg2 R1
          go_wp2_with fail
          go_loopw [6] (fun vi wr => ∃ k : Nat, k ≤ nc ∧ vi = .int .i64 k ∧ Hid (∀ j, j < k → chanB sz zs ys j = true) ∧ Hid (Below w2.heap.size w2 wr)) (fun vi _ => nc - (intOf vi).toNat)
          case atStart => exact ⟨0, Nat.zero_le _, rfl, fun j hj => absurd hj (Nat.not_lt_zero _), Below.refl _ _⟩
          case round =>
            obtain ⟨k, hk, rfl, hC, hBk⟩ := hrel
            have hB : Hid (Below w.heap.size w wr) := HB1.out.trans (hBk.out.mono HB1.out.size)
            have hRk := HR1.out.step hBk.out
            have q0 := hRk.cell 0 rfl
            have q2 := hRk.cell 2 rfl
            have q3 := hRk.cell 3 rfl
            have lq := hRk.lt
            clear hRk
            by_cases hlt : k < nc
            · obtain ⟨b1, o1, c, e1, lb1, d1, g1, _, _⟩ := (HZ.out.below hB.out).get hlt
              obtain ⟨b2, o2, y, e2, lb2, d2, g2', _, _⟩ := (HY.out.below hB.out).get (show k < ns by rw [H3.out]; exact hlt)
              cases e1
              cases e2
              have k1 : (0 : Int) ≤ (k : Int) := by omega
              have k2 : (k : Int) < (nc : Int) := by omega
              have k3 : (k : Int) < (ns : Int) := by have := H3.out; omega
              by_cases u1 : c < 0
              · have hd : decide (c < 0) = true := decide_eq_true u1
                have hbf : b = false := by rw [← HB.out]; exact scnB_false (Or.inr (Or.inr (Or.inr (by rw [HSA.out]; exact cutB_bad (i := k) (by rw [HZL.out]; exact hlt) (by unfold chanB; rw [g1.out, inR_lo u1]; simp)))))
                subst hbf
                go_wp2_with fail
                go_quiet (fail)
                go_wp2_with fail
                go_ret
                exact ⟨rfl, by first | exact below_drewN hB.out _ | exact hB.out⟩
              · have hd : decide (c < 0) = false := decide_eq_false u1
                by_cases u2 : (sn : Int) ≤ c
                ·
                  have hbf : b = false := by rw [← HB.out]; exact scnB_false (Or.inr (Or.inr (Or.inr (by rw [HSA.out]; exact cutB_bad (i := k) (by rw [HZL.out]; exact hlt) (by unfold chanB; rw [g1.out, inR_hi (by rw [HSN.out]; omega)]; simp)))))
                  subst hbf
                  go_wp2_with fail
                  go_quiet (fail)
                  go_wp2_with fail
                  go_ret
                  exact ⟨rfl, by first | exact below_drewN hB.out _ | exact hB.out⟩
                · have hd2 : decide ((sn : Int) ≤ c) = false := decide_eq_false u2
                  obtain ⟨C, rfl⟩ := Int.eq_ofNat_of_zero_le (show 0 ≤ c by omega)
                  have hCn : C < sn := by omega
                  obtain ⟨b3, o3, s, e3, lb3, d3, g3, _, _⟩ := (HSI.out.below hBk.out).get hCn
                  cases e3
                  have k4 : (0 : Int) ≤ (C : Int) := by omega
                  have k5 : (C : Int) < (sn : Int) := by omega
                  cases h6 : inR y 0 s with
                  | false =>
                    have hbf : b = false := by rw [← HB.out]; exact scnB_false (Or.inr (Or.inr (Or.inr (by rw [HSA.out]; exact cutB_bad (i := k) (by rw [HZL.out]; exact hlt) (by unfold chanB; rw [g1.out, g2'.out, Int.toNat_natCast, g3.out, h6]; simp)))))
                    subst hbf
                    go_wp2_with fail
                    go_quiet ((go_at_call 32 ; exact Calls.quiet_of_same (R_in25 _ _ _ _ false h6)))
                    go_wp2_with fail
                    go_ret
                    exact ⟨rfl, by first | exact below_drewN hB.out _ | exact hB.out⟩
                  | true =>
                    have H6 := Lib.hid h6
                    go_wp2_with fail
                    go_quiet ((go_at_call 32; exact Calls.quiet_of_same (R_in25 _ _ _ _ true h6)))
                    have hBq : Hid (Below w.heap.size w (wr.drewN nq)) := below_drewN hB.out _
                    have hBkq : Hid (Below w2.heap.size w2 (wr.drewN nq)) := below_drewN hBk.out _
                    have q2b : (wr.drewN nq).cell? ⟨g2, 2, none⟩ = some (.slice (some ⟨b1, o1, none⟩) nc cc) := q2
                    clear q2
                    generalize wr.drewN nq = w5 at hBq hBkq q2b ⊢
                    have lq5 : g2 < w5.heap.size := (HR1.out.step hBkq.out).lt
                    clear d1 d2 d3 q0 q3 lq hd hd2 h6 hB hBk u1 u2
                    go_wp2_with fail
                    go_loop [8] (fun vj => ∃ j : Nat, j ≤ k ∧ vj = .int .i64 j ∧ Hid (¬ (C : Int) ∈ zs.take j)) (fun vj => k - (intOf vj).toNat)
                    case atStart => exact ⟨0, Nat.zero_le _, rfl, by show ¬ _; simp⟩
                    case round =>
                      obtain ⟨j, hj, rfl, hJ⟩ := hrel
                      by_cases hjk : j < k
                      · obtain ⟨b4, o4, z, e4, lb4, d4, g4, _, _⟩ := (HZ.out.below hBq.out).get (show j < nc by omega)
                        cases e4
                        have j1 : (0 : Int) ≤ (j : Int) := by omega
                        have j2 : (j : Int) < (nc : Int) := by omega
                        by_cases hzc : z = (C : Int)
                        · have hbf : b = false := by
                            rw [← HB.out]
                            refine scnB_false (Or.inr (Or.inr (Or.inr ?_)))
                            rw [HSA.out]
                            refine cutB_bad (i := k) (by rw [HZL.out]; exact hlt) ?_
                            unfold chanB
                            rw [g1.out, ← hzc, ← g4.out, decide_eq_true (mem_take_getD hjk (by rw [HZL.out]; exact hk))]
                            rfl
                          subst hbf
                          have hzb : (z == (C : Int)) = true := by simpa using hzc
                          clear hzc
                          go_wp2_with fail
                          go_ret
                          exact ⟨rfl, hBq.out⟩
                        · have hzb : (z == (C : Int)) = false := by simpa using hzc
                          have hJ2 : Hid (¬ (C : Int) ∈ zs.take (j + 1)) := by
                            show ¬ _
                            rw [take_snoc_int (by rw [HZL.out]; omega), List.mem_append, g4.out]
                            intro h
                            rcases h with h | h
                            · exact hJ.out h
                            · exact hzc (by simp at h; exact h.symm)
                          clear hzc
                          go_wp2_with fail
                          go_round
                          case rel => exact ⟨j + 1, by omega, by go_num, hJ2⟩
                          case measure => simp [intOf]; omega
                      · obtain rfl : j = k := by omega
                        have hC2 : Hid (∀ q, q < j + 1 → chanB sz zs ys q = true) := fun q hq => by
                          by_cases e : q = j
                          · subst e
                            unfold chanB
                            rw [g1.out, g2'.out, Int.toNat_natCast, g3.out, H6.out, decide_eq_false hJ.out, inR_iff.2 ⟨k4, by rw [HSN.out]; omega⟩]
                            rfl
                          · exact hC.out q (by omega)
                        go_wp2_with fail
                        go_roundw
                        case rel => exact ⟨j + 1, by omega, by go_num, hC2, hBkq.out⟩
                        case measure => simp [intOf]; omega
            · obtain rfl : k = nc := by omega
              have hbt : b = true := by
                rw [← HB.out]
                unfold scnB
                rw [HSA.out, cutB_good (fun j hj => hC.out j (by rw [HZL.out] at hj; exact hj)), H4.out, decide_eq_true (by rw [HZL.out, HYL.out]; exact H3.out), inR_iff.2 ⟨i1, by rw [HL.out]; omega⟩]
                rfl
              subst hbt
              go_wp2_with fail
              go_ret
              exact ⟨rfl, hB.out⟩
      · have h3a : ((ns : Int) != (nc : Int)) = true := by simp; omega
        have h3b : (ns != nc) = true := by simp; omega
        have hq : ys.length ≠ zs.length := by rw [HZL.out, HYL.out]; exact h3
        clear h3
        have hbf : b = false := by rw [← HB.out]; exact scnB_false (Or.inr (Or.inl hq))
        subst hbf
        clear HS HZ HY HL HZL HYL
        go_enter Try.func29, Try.ntmps29
        go_wp2_with fail
        go_ret
        exact ⟨rfl, by (repeat' (first | (with_reducible exact Below.refl _ _) | (with_reducible assumption) | (with_reducible exact Bw.out (by with_reducible assumption)) | (with_reducible refine bw_alloc ?_ _) | (with_reducible refine bw_step ?_ (by with_reducible assumption)) | (with_reducible refine Below.alloc ?_ ?_ _) | (with_reducible refine Below.drew ?_) | (with_reducible refine below_drewN ?_ _) | (with_reducible refine Below.setCell ?_ ?_ _) | (with_reducible refine below_step ?_ (by with_reducible assumption) ?_) | (with_reducible exact Nat.le_refl _) | omega | (simp; omega) | (simp; done)))⟩

set_option maxRecDepth 100000 in
set_option maxHeartbeats 1600000 in
theorem R_Valid25 (a : Option Addr) (n cap : Nat) (l : List NightV) (nt wd : Int) (ac : Option Addr) (nc cc : Nat) (zs : List Int) (as' : Option Addr) (ns cs : Nat) (ys : List Int) (w : World)
    (hn : n ≤ 9223372036854775807) (hnc : nc ≤ 9223372036854775807) (hns : ns ≤ 9223372036854775807) (hs : SlN w a n l) (hz : SlI w ac nc zs) (hy : SlI w as' ns ys) (b : Bool) (hb : openB l nt wd zs ys = b) :
    Calls Try.prog 14 #[.slice a n cap, .agg #[.int .i64 nt, .int .i64 wd, .slice ac nc cc, .slice as' ns cs]] w fun e w' => e = .returned (.bool b) ∧ Below w.heap.size w w' := by
  rw [openB_scn] at hb
  have HS := Lib.hid hs
  have HZ := Lib.hid hz
  have HY := Lib.hid hy
  have HB := Lib.hid hb
  clear hs hz hy hb
  go_enter Try.func14, Try.ntmps14
  go_wp2_with fail
  refine (R_valid_any a n cap l _ hn (HS.out.below (by (repeat' (first | (with_reducible exact Below.refl _ _) | (with_reducible assumption) | (with_reducible exact Bw.out (by with_reducible assumption)) | (with_reducible refine bw_alloc ?_ _) | (with_reducible refine bw_step ?_ (by with_reducible assumption)) | (with_reducible refine Below.alloc ?_ ?_ _) | (with_reducible refine Below.drew ?_) | (with_reducible refine below_drewN ?_ _) | (with_reducible refine Below.setCell ?_ ?_ _) | (with_reducible refine below_step ?_ (by with_reducible assumption) ?_) | (with_reducible exact Nat.le_refl _) | omega | (simp; omega) | (simp; done))))) _ rfl).mono ?_
  rintro e w1 ⟨rfl, hb1⟩
  have R_s_1 : Row w1 (w.heap.size) [.int .i64 nt, .int .i64 wd, .slice ac nc cc, .slice as' ns cs] := by (repeat' (first | (with_reducible assumption) | (with_reducible refine Row.new' _ _ _ (by first | rfl | (simp; done) | omega)) | (with_reducible refine Row.alloc ?_ _) | (with_reducible refine Row.drew ?_) | (with_reducible refine Row.drewN ?_ _) | (with_reducible refine Row.step ?_ (by with_reducible assumption)) | (with_reducible refine Row.set2' ?_ _ _; first | exact ⟨_, _, by with_reducible assumption⟩ | exact ⟨_, _, Row.alloc (by with_reducible assumption) _⟩ | exact ⟨_, _, Row.alloc (Row.alloc (by with_reducible assumption) _) _⟩) | (with_reducible refine Row.other ?_ (by first | omega | (simp; done) | (simp; omega)) _)))
  have c_s_0_1 := R_s_1.cell 0 rfl
  have c_s_1_1 := R_s_1.cell 1 rfl
  have c_s_2_1 := R_s_1.cell 2 rfl
  have c_s_3_1 := R_s_1.cell 3 rfl
  have l_s_1 := R_s_1.lt
  have HB1 : Below w.heap.size w w1 := by (repeat' (first | (with_reducible exact Below.refl _ _) | (with_reducible assumption) | (with_reducible exact Bw.out (by with_reducible assumption)) | (with_reducible refine bw_alloc ?_ _) | (with_reducible refine bw_step ?_ (by with_reducible assumption)) | (with_reducible refine Below.alloc ?_ ?_ _) | (with_reducible refine Below.drew ?_) | (with_reducible refine below_drewN ?_ _) | (with_reducible refine Below.setCell ?_ ?_ _) | (with_reducible refine below_step ?_ (by with_reducible assumption) ?_) | (with_reducible exact Nat.le_refl _) | omega | (simp; omega) | (simp; done)))
  cases h1 : nightsB l with
  | false =>
    have hbf : b = false := by rw [← HB.out, h1]; rfl
    subst hbf
    go_wp2_with fail
    go_ret
    refine ⟨(by first | rfl | exact ret_bool (by first | rfl | (simp; done) | (simp; omega))), ?_⟩
    (repeat' (first | (with_reducible exact Below.refl _ _) | (with_reducible assumption) | (with_reducible exact Bw.out (by with_reducible assumption)) | (with_reducible refine bw_alloc ?_ _) | (with_reducible refine bw_step ?_ (by with_reducible assumption)) | (with_reducible refine Below.alloc ?_ ?_ _) | (with_reducible refine Below.drew ?_) | (with_reducible refine below_drewN ?_ _) | (with_reducible refine Below.setCell ?_ ?_ _) | (with_reducible refine below_step ?_ (by with_reducible assumption) ?_) | (with_reducible exact Nat.le_refl _) | omega | (simp; omega) | (simp; done)))
  | true =>
    have hbf : scnB l nt wd zs ys = b := by rw [← HB.out, h1]; rfl
    go_wp2_with fail
    refine (R_scene25 a n cap l nt wd ac nc cc zs as' ns cs ys _ hn hnc hns (HS.out.below (by (repeat' (first | (with_reducible exact Below.refl _ _) | (with_reducible assumption) | (with_reducible exact Bw.out (by with_reducible assumption)) | (with_reducible refine bw_alloc ?_ _) | (with_reducible refine bw_step ?_ (by with_reducible assumption)) | (with_reducible refine Below.alloc ?_ ?_ _) | (with_reducible refine Below.drew ?_) | (with_reducible refine below_drewN ?_ _) | (with_reducible refine Below.setCell ?_ ?_ _) | (with_reducible refine below_step ?_ (by with_reducible assumption) ?_) | (with_reducible exact Nat.le_refl _) | omega | (simp; omega) | (simp; done))))) (HZ.out.below (by (repeat' (first | (with_reducible exact Below.refl _ _) | (with_reducible assumption) | (with_reducible exact Bw.out (by with_reducible assumption)) | (with_reducible refine bw_alloc ?_ _) | (with_reducible refine bw_step ?_ (by with_reducible assumption)) | (with_reducible refine Below.alloc ?_ ?_ _) | (with_reducible refine Below.drew ?_) | (with_reducible refine below_drewN ?_ _) | (with_reducible refine Below.setCell ?_ ?_ _) | (with_reducible refine below_step ?_ (by with_reducible assumption) ?_) | (with_reducible exact Nat.le_refl _) | omega | (simp; omega) | (simp; done))))) (HY.out.below (by (repeat' (first | (with_reducible exact Below.refl _ _) | (with_reducible assumption) | (with_reducible exact Bw.out (by with_reducible assumption)) | (with_reducible refine bw_alloc ?_ _) | (with_reducible refine bw_step ?_ (by with_reducible assumption)) | (with_reducible refine Below.alloc ?_ ?_ _) | (with_reducible refine Below.drew ?_) | (with_reducible refine below_drewN ?_ _) | (with_reducible refine Below.setCell ?_ ?_ _) | (with_reducible refine below_step ?_ (by with_reducible assumption) ?_) | (with_reducible exact Nat.le_refl _) | omega | (simp; omega) | (simp; done))))) b hbf).mono ?_
    rintro e w2 ⟨rfl, hb2⟩
    have R_s_2 : Row w2 (w.heap.size) [.int .i64 nt, .int .i64 wd, .slice ac nc cc, .slice as' ns cs] := by (repeat' (first | (with_reducible assumption) | (with_reducible refine Row.new' _ _ _ (by first | rfl | (simp; done) | omega)) | (with_reducible refine Row.alloc ?_ _) | (with_reducible refine Row.drew ?_) | (with_reducible refine Row.drewN ?_ _) | (with_reducible refine Row.step ?_ (by with_reducible assumption)) | (with_reducible refine Row.set2' ?_ _ _; first | exact ⟨_, _, by with_reducible assumption⟩ | exact ⟨_, _, Row.alloc (by with_reducible assumption) _⟩ | exact ⟨_, _, Row.alloc (Row.alloc (by with_reducible assumption) _) _⟩) | (with_reducible refine Row.other ?_ (by first | omega | (simp; done) | (simp; omega)) _)))
    have c_s_0_2 := R_s_2.cell 0 rfl
    have c_s_1_2 := R_s_2.cell 1 rfl
    have c_s_2_2 := R_s_2.cell 2 rfl
    have c_s_3_2 := R_s_2.cell 3 rfl
    have l_s_2 := R_s_2.lt
    have HB2 : Below w.heap.size w w2 := by (repeat' (first | (with_reducible exact Below.refl _ _) | (with_reducible assumption) | (with_reducible exact Bw.out (by with_reducible assumption)) | (with_reducible refine bw_alloc ?_ _) | (with_reducible refine bw_step ?_ (by with_reducible assumption)) | (with_reducible refine Below.alloc ?_ ?_ _) | (with_reducible refine Below.drew ?_) | (with_reducible refine below_drewN ?_ _) | (with_reducible refine Below.setCell ?_ ?_ _) | (with_reducible refine below_step ?_ (by with_reducible assumption) ?_) | (with_reducible exact Nat.le_refl _) | omega | (simp; omega) | (simp; done)))
    clear R_s_1 c_s_0_1 c_s_1_1 c_s_2_1 c_s_3_1 hb1 HB1
    go_wp2_with fail
    go_ret
    refine ⟨(by first | rfl | exact ret_bool (by first | rfl | (simp; done) | (simp; omega))), ?_⟩
    (repeat' (first | (with_reducible exact Below.refl _ _) | (with_reducible assumption) | (with_reducible exact Bw.out (by with_reducible assumption)) | (with_reducible refine bw_alloc ?_ _) | (with_reducible refine bw_step ?_ (by with_reducible assumption)) | (with_reducible refine Below.alloc ?_ ?_ _) | (with_reducible refine Below.drew ?_) | (with_reducible refine below_drewN ?_ _) | (with_reducible refine Below.setCell ?_ ?_ _) | (with_reducible refine below_step ?_ (by with_reducible assumption) ?_) | (with_reducible exact Nat.le_refl _) | omega | (simp; omega) | (simp; done)))

def usB25 (l : List NightV) (nt wd : Int) (zs ys : List Int) : Bool := fewB l [] [] && (decide (zs.length ≤ 40) && (decide (ys.length ≤ 40) && openB l nt wd zs ys))
set_option maxRecDepth 100000 in
set_option maxHeartbeats 1600000 in
theorem usable25 (a : Option Addr) (n cap : Nat) (l : List NightV) (nt wd : Int) (ac : Option Addr) (nc cc : Nat) (zs : List Int) (as' : Option Addr) (ns cs : Nat) (ys : List Int) (w : World)
    (hn : n ≤ 9223372036854775807) (hnc : nc ≤ 9223372036854775807) (hns : ns ≤ 9223372036854775807) (hs : SlN w a n l) (hz : SlI w ac nc zs) (hy : SlI w as' ns ys) (b : Bool) (hb : usB25 l nt wd zs ys = b) :
    Calls Try.prog 21 #[.slice a n cap, .agg #[.int .i64 nt, .int .i64 wd, .slice ac nc cc, .slice as' ns cs]] w fun e w' => e = .returned (.bool b) ∧ Below w.heap.size w w' := by
  have HS := Lib.hid hs
  have HZ := Lib.hid hz
  have HY := Lib.hid hy
  unfold usB25 at hb
  rw [hz.1, hy.1] at hb
  have HB := Lib.hid hb
  clear hs hz hy hb
  go_enter Try.func21, Try.ntmps21
  go_wp2_with fail
  refine (R_Few25 a n cap l none 0 0 [] none 0 0 [] _ hn (by omega) (by omega) (HS.out.below (by (repeat' (first | (with_reducible exact Below.refl _ _) | (with_reducible assumption) | (with_reducible exact Bw.out (by with_reducible assumption)) | (with_reducible refine bw_alloc ?_ _) | (with_reducible refine bw_step ?_ (by with_reducible assumption)) | (with_reducible refine Below.alloc ?_ ?_ _) | (with_reducible refine Below.drew ?_) | (with_reducible refine below_drewN ?_ _) | (with_reducible refine Below.setCell ?_ ?_ _) | (with_reducible refine below_step ?_ (by with_reducible assumption) ?_) | (with_reducible exact Nat.le_refl _) | omega | (simp; omega) | (simp; done))))) rfl rfl _ rfl).mono ?_
  rintro e w' ⟨rfl, rfl⟩
  cases h1 : fewB l [] [] with
  | false =>
    have hbf : b = false := by rw [← HB.out, h1]; rfl
    subst hbf
    go_wp2_with fail
    go_ret
    exact ⟨rfl, by (repeat' (first | (with_reducible exact Below.refl _ _) | (with_reducible assumption) | (with_reducible exact Bw.out (by with_reducible assumption)) | (with_reducible refine bw_alloc ?_ _) | (with_reducible refine bw_step ?_ (by with_reducible assumption)) | (with_reducible refine Below.alloc ?_ ?_ _) | (with_reducible refine Below.drew ?_) | (with_reducible refine below_drewN ?_ _) | (with_reducible refine Below.setCell ?_ ?_ _) | (with_reducible refine below_step ?_ (by with_reducible assumption) ?_) | (with_reducible exact Nat.le_refl _) | omega | (simp; omega) | (simp; done)))⟩
  | true =>
    by_cases h2 : nc ≤ 40
    · have i2 : (nc : Int) ≤ 40 := by omega
      by_cases h3 : ns ≤ 40
      · have i3 : (ns : Int) ≤ 40 := by omega
        have hbf : openB l nt wd zs ys = b := by rw [← HB.out, h1, decide_eq_true h2, decide_eq_true h3]; rfl
        go_wp2_with fail
        refine (R_Valid25 a n cap l nt wd ac nc cc zs as' ns cs ys _ hn hnc hns (HS.out.below (by (repeat' (first | (with_reducible exact Below.refl _ _) | (with_reducible assumption) | (with_reducible exact Bw.out (by with_reducible assumption)) | (with_reducible refine bw_alloc ?_ _) | (with_reducible refine bw_step ?_ (by with_reducible assumption)) | (with_reducible refine Below.alloc ?_ ?_ _) | (with_reducible refine Below.drew ?_) | (with_reducible refine below_drewN ?_ _) | (with_reducible refine Below.setCell ?_ ?_ _) | (with_reducible refine below_step ?_ (by with_reducible assumption) ?_) | (with_reducible exact Nat.le_refl _) | omega | (simp; omega) | (simp; done))))) (HZ.out.below (by (repeat' (first | (with_reducible exact Below.refl _ _) | (with_reducible assumption) | (with_reducible exact Bw.out (by with_reducible assumption)) | (with_reducible refine bw_alloc ?_ _) | (with_reducible refine bw_step ?_ (by with_reducible assumption)) | (with_reducible refine Below.alloc ?_ ?_ _) | (with_reducible refine Below.drew ?_) | (with_reducible refine below_drewN ?_ _) | (with_reducible refine Below.setCell ?_ ?_ _) | (with_reducible refine below_step ?_ (by with_reducible assumption) ?_) | (with_reducible exact Nat.le_refl _) | omega | (simp; omega) | (simp; done))))) (HY.out.below (by (repeat' (first | (with_reducible exact Below.refl _ _) | (with_reducible assumption) | (with_reducible exact Bw.out (by with_reducible assumption)) | (with_reducible refine bw_alloc ?_ _) | (with_reducible refine bw_step ?_ (by with_reducible assumption)) | (with_reducible refine Below.alloc ?_ ?_ _) | (with_reducible refine Below.drew ?_) | (with_reducible refine below_drewN ?_ _) | (with_reducible refine Below.setCell ?_ ?_ _) | (with_reducible refine below_step ?_ (by with_reducible assumption) ?_) | (with_reducible exact Nat.le_refl _) | omega | (simp; omega) | (simp; done))))) b hbf).mono ?_
        rintro e w2 ⟨rfl, hb2⟩
        go_wp2_with fail
        go_ret
        exact ⟨rfl, by (repeat' (first | (with_reducible exact Below.refl _ _) | (with_reducible assumption) | (with_reducible exact Bw.out (by with_reducible assumption)) | (with_reducible refine bw_alloc ?_ _) | (with_reducible refine bw_step ?_ (by with_reducible assumption)) | (with_reducible refine Below.alloc ?_ ?_ _) | (with_reducible refine Below.drew ?_) | (with_reducible refine below_drewN ?_ _) | (with_reducible refine Below.setCell ?_ ?_ _) | (with_reducible refine below_step ?_ (by with_reducible assumption) ?_) | (with_reducible exact Nat.le_refl _) | omega | (simp; omega) | (simp; done)))⟩
      · have i3 : ¬ (ns : Int) ≤ 40 := by omega
        have hbf : b = false := by rw [← HB.out, decide_eq_false h3]; simp
        subst hbf
        go_wp2_with fail
        go_ret
        exact ⟨rfl, by (repeat' (first | (with_reducible exact Below.refl _ _) | (with_reducible assumption) | (with_reducible exact Bw.out (by with_reducible assumption)) | (with_reducible refine bw_alloc ?_ _) | (with_reducible refine bw_step ?_ (by with_reducible assumption)) | (with_reducible refine Below.alloc ?_ ?_ _) | (with_reducible refine Below.drew ?_) | (with_reducible refine below_drewN ?_ _) | (with_reducible refine Below.setCell ?_ ?_ _) | (with_reducible refine below_step ?_ (by with_reducible assumption) ?_) | (with_reducible exact Nat.le_refl _) | omega | (simp; omega) | (simp; done)))⟩
    · have i2 : ¬ (nc : Int) ≤ 40 := by omega
      have hbf : b = false := by rw [← HB.out, decide_eq_false h2]; simp
      subst hbf
      go_wp2_with fail
      go_ret
      exact ⟨rfl, by (repeat' (first | (with_reducible exact Below.refl _ _) | (with_reducible assumption) | (with_reducible exact Bw.out (by with_reducible assumption)) | (with_reducible refine bw_alloc ?_ _) | (with_reducible refine bw_step ?_ (by with_reducible assumption)) | (with_reducible refine Below.alloc ?_ ?_ _) | (with_reducible refine Below.drew ?_) | (with_reducible refine below_drewN ?_ _) | (with_reducible refine Below.setCell ?_ ?_ _) | (with_reducible refine below_step ?_ (by with_reducible assumption) ?_) | (with_reducible exact Nat.le_refl _) | omega | (simp; omega) | (simp; done)))⟩

end Go.Proofs.Ytdijdfhlmnhcjaa
