/-
  The walk of the reference's Promise where it returns a scene.
-/
import Derived.Test.YtijbhdpaikajkaaWRefC
namespace Go.Proofs.Ytijbhdpaikajkaa
set_option linter.unusedSimpArgs false
set_option linter.unusedVariables false
open Go.RowKit

theorem sell_step {zs top : List Int} {L F x z : Int} {j : Nat} (hj : j < top.length) (hF : lfI zs L (top.take j) = F) (hx : top.getD j 0 = x) (hz : shr zs x = z) :
    (F = 0 → sellC zs L (top.take (j + 1)) = sellC zs L (top.take j) ∧ sellS zs L (top.take (j + 1)) = sellS zs L (top.take j) ∧ lfI zs L (top.take (j + 1)) = 0) ∧
    (F ≠ 0 → sellC zs L (top.take (j + 1)) = sellC zs L (top.take j) ++ [x] ∧ sellS zs L (top.take (j + 1)) = sellS zs L (top.take j) ++ [min F z] ∧ lfI zs L (top.take (j + 1)) = F - min F z) := by
  rw [take_succ_getD hj, hx, sellC_snoc, sellS_snoc, lfI_snoc, hF, hz]
  exact ⟨fun h => by simp [h], fun h => by simp [h]⟩
theorem OwnV.len {w : World} {base : Nat} {a : Option Addr} {n c : Nat} {zs : List Int} (h : OwnV w base (.slice a n c) zs) : zs.length = n := by
  obtain ⟨_, _, e, _⟩ := h.sl
  simp only [Value.slice.injEq] at e
  exact e.2.1.symm

set_option maxRecDepth 100000 in
set_option maxHeartbeats 12800000 in
theorem R_Promise_some (a : Option Addr) (n cap : Nat) (l : List NightV) (c : Nat) (most : Int) (i : Nat) (r s : Int) (zs : List Int) (nn cc : Nat) (w : World) (hs : SlN w a n l) (hcaps : ∀ x ∈ l, x.n ≤ x.cap ∧ x.cap ≤ maxLen) (hB : (nightsB l && inB (c : Int) 30 && inB most 1000) = true)
    (ad : Option Addr) (hx : l[i]? = some ⟨r, s, ad, nn, cc, zs⟩) (hpre : ∀ j y, j < i → l[j]? = some y → brk c most y = false) (hbr : brk c most ⟨r, s, ad, nn, cc, zs⟩ = true) :
    Calls Try.prog 40 #[.slice a n cap, .int .i64 c, .int .i64 most] w
      fun e w' => ∃ v1 v2, e = .returned (.tuple #[.agg #[.int .i64 i, .int .i64 (scW r s most), v1, v2], .bool true, .int .i64 0]) ∧
        SlV w' v1 (sellC zs (scL r s most) (topL zs c)) ∧ SlV w' v2 (sellS zs (scL r s most) (topL zs c)) ∧ Below w.heap.size w w' := by
  simp only [Bool.and_eq_true] at hB
  obtain ⟨⟨h1, h2⟩, h3⟩ := hB
  have hn : n ≤ 366 := by have := hs.1; have := nightsB_len h1; omega
  have hc30 : c ≤ 30 := by have := (inB_iff.1 h2).2; omega
  obtain ⟨hm1, hm2⟩ := inB_iff.1 h3
  have hxn : nightB r s zs = true := nightsB_at h1 hx
  obtain ⟨p1, p2, ⟨p3, p4⟩, p5, p6⟩ := nightB_parts hxn
  have hsb := nightB_sh hxn
  obtain ⟨hcx1, hcx2⟩ : nn ≤ cc ∧ cc ≤ maxLen := hcaps _ (List.mem_of_getElem? hx)
  have hin : i < n := by have := (List.getElem?_eq_some_iff.1 hx).1; have := hs.1; omega
  have KX : SlC w ad nn cc zs := (hs.2 i _ hx).1.2.c hcx1 hcx2
  obtain ⟨bx, ox, hax, e0, e1, e2⟩ : ∃ b off, a = some ⟨b, off, none⟩ ∧ w.cell? ⟨b, off + i * 3, none⟩ = some (.int .i64 r) ∧ w.cell? ⟨b, off + i * 3 + 1, none⟩ = some (.int .i64 s) ∧ w.cell? ⟨b, off + i * 3 + 2, none⟩ = some (.slice ad nn cc) := (hs.2 i _ hx).2
  subst hax
  have hW0 : most < wkI r s zs c := brk_wk.1 hbr
  have HL := Lib.hid hs.1
  have HS := Lib.hid hs
  have HC := Lib.hid hcaps
  have H1 := Lib.hid h1
  have H2 := Lib.hid h2
  have H3 := Lib.hid h3
  have HP := Lib.hid hpre
  have HX := Lib.hid hx
  have HP2 := Lib.hid p2
  have HXN0 := Lib.hid hxn
  have HSB := Lib.hid hsb
  have HK := Lib.hid KX
  have E0 : CellAt w bx (ox + i * 3) (.int .i64 r) := e0
  have E1 : CellAt w bx (ox + i * 3 + 1) (.int .i64 s) := e1
  have E2 : CellAt w bx (ox + i * 3 + 2) (.slice ad nn cc) := e2
  have hbx : bx < w.heap.size := World.block_lt_of_cell? w _ e0
  obtain ⟨W0, hW0'⟩ : ∃ W, wkI r s zs c = W := ⟨_, rfl⟩
  rw [hW0'] at hW0
  have HW0 := Lib.hid hW0'
  clear hs hcaps h1 h2 h3 hpre hx hbr p2 hxn hsb KX e0 e1 e2 hW0'
  go_enter Try.func40, Try.ntmps40
  go_wp2_with fail
  refine (R_valid_any _ _ _ l _ (by omega) (HS.out.below (by (repeat' (first | (with_reducible exact Below.refl _ _) | (with_reducible assumption) | (with_reducible exact Bw.out (by with_reducible assumption)) | (with_reducible refine bw_alloc ?_ _) | (with_reducible refine bw_step ?_ (by with_reducible assumption)) | (with_reducible refine Below.alloc ?_ ?_ _) | (with_reducible refine Below.drew ?_) | (with_reducible refine below_drewN ?_ _) | (with_reducible refine Below.setCell ?_ ?_ _) | (with_reducible refine below_step ?_ (by with_reducible assumption) ?_) | (with_reducible exact Nat.le_refl _) | omega | (simp; omega) | (simp; done))))) true H1.out).mono ?_
  rintro e w1 ⟨rfl, hb1⟩
  have R_r_1 : Row w1 (w.heap.size) [.int .i64 (0), .int .i64 (0), .slice none 0 0, .slice none 0 0] := by (repeat' (first | (with_reducible assumption) | (with_reducible refine Row.new' _ _ _ (by first | rfl | (simp; done) | omega)) | (with_reducible refine Row.alloc ?_ _) | (with_reducible refine Row.drew ?_) | (with_reducible refine Row.drewN ?_ _) | (with_reducible refine Row.step ?_ (by with_reducible assumption)) | (with_reducible refine Row.set2' ?_ _ _; first | exact ⟨_, _, by with_reducible assumption⟩ | exact ⟨_, _, Row.alloc (by with_reducible assumption) _⟩ | exact ⟨_, _, Row.alloc (Row.alloc (by with_reducible assumption) _) _⟩) | (with_reducible refine Row.other ?_ (by first | omega | (simp; done) | (simp; omega)) _)))
  have c_r_0_1 := R_r_1.cell 0 rfl
  have c_r_1_1 := R_r_1.cell 1 rfl
  have c_r_2_1 := R_r_1.cell 2 rfl
  have c_r_3_1 := R_r_1.cell 3 rfl
  have z_r_0_1 := R_r_1.frozen 0
  have z_r_1_1 := R_r_1.frozen 1
  have z_r_2_1 := R_r_1.frozen 2
  have z_r_3_1 := R_r_1.frozen 3
  have l_r_1 := R_r_1.lt
  have HB1 : Below w.heap.size w w1 := by (repeat' (first | (with_reducible exact Below.refl _ _) | (with_reducible assumption) | (with_reducible exact Bw.out (by with_reducible assumption)) | (with_reducible refine bw_alloc ?_ _) | (with_reducible refine bw_step ?_ (by with_reducible assumption)) | (with_reducible refine Below.alloc ?_ ?_ _) | (with_reducible refine Below.drew ?_) | (with_reducible refine below_drewN ?_ _) | (with_reducible refine Below.setCell ?_ ?_ _) | (with_reducible refine below_step ?_ (by with_reducible assumption) ?_) | (with_reducible exact Nat.le_refl _) | omega | (simp; omega) | (simp; done)))
  go_wp2_with fail
  refine (R_Cut_any _ _).mono ?_
  rintro e w' ⟨rfl, rfl⟩
  rw [H2.out]
  go_wp2_with fail
  refine (R_in0 most 1000 _).mono ?_
  rintro e w' ⟨rfl, rfl⟩
  rw [H3.out]
  go_wp2_with fail
  go_loopw [11] (fun q wr => ∃ k : Nat, k ≤ i ∧ q = .int .i64 k ∧ Hid (Below w1.heap.size w1 wr)) (fun q _ => n - (intOf q).toNat)
  case atStart => exact ⟨0, Nat.zero_le _, rfl, by show Below _ _ _; (repeat' (first | (with_reducible exact Below.refl _ _) | (with_reducible assumption) | (with_reducible exact Bw.out (by with_reducible assumption)) | (with_reducible refine bw_alloc ?_ _) | (with_reducible refine bw_step ?_ (by with_reducible assumption)) | (with_reducible refine Below.alloc ?_ ?_ _) | (with_reducible refine Below.drew ?_) | (with_reducible refine below_drewN ?_ _) | (with_reducible refine Below.setCell ?_ ?_ _) | (with_reducible refine below_step ?_ (by with_reducible assumption) ?_) | (with_reducible exact Nat.le_refl _) | omega | (simp; omega) | (simp; done)))⟩
  case round =>
    obtain ⟨k, hk, rfl, hB⟩ := hrel
    have hBw := HB1.trans (hB.out.mono HB1.size)
    have HRr := Lib.hid (R_r_1.step hB.out)
    have i1 : (0 : Int) ≤ (k : Int) := by omega
    have i2 : (k : Int) < (n : Int) := by omega
    clear R_r_1 c_r_0_1 c_r_1_1 c_r_2_1 c_r_3_1 z_r_0_1 z_r_1_1 z_r_2_1 z_r_3_1
    by_cases hlt : k < i
    · obtain ⟨x, b, off, hx, hd, hin2, e, hb, c0, c1, c2⟩ := (HS.out.below hBw).get (show k < n by omega)
      cases e
      obtain ⟨q1, q2⟩ := HC.out x (List.mem_of_getElem? hx)
      have hnx := nightsB_at H1.out hx
      have KX := Lib.hid (hin2.2.c q1 q2)
      obtain ⟨W, hW⟩ : ∃ W, wkI x.rooms x.sold x.zs c = W := ⟨_, rfl⟩
      have hle : W ≤ most := by rw [← hW]; exact brk_wkf.1 (HP.out k x hlt hx)
      have HW := Lib.hid hW
      have hBk := hB
      clear hx hd hin2 q1 q2 hB hW hW0
      go_wp2_with fail
      refine (R_walked_any x.rooms x.sold c _ _ _ x.zs _ KX.out hnx hc30).mono ?_
      rintro e w4 ⟨rfl, hb4⟩
      rw [HW.out]
      go_wp2_with fail
      go_roundw
      case rel => exact ⟨k + 1, by omega, by go_num, hBk.out.trans (hb4.mono hBk.out.size)⟩
      case measure => simp [intOf]; omega
    · obtain rfl : i = k := by omega
      have c0 := (E0.step hBw).out
      have c1 := (E1.step hBw).out
      have c2 := (E2.step hBw).out
      have KW := Lib.hid (HK.out.step hBw)
      have HBw := Lib.hid hBw
      clear hlt hk hB hBw
      go_wp2_with fail
      refine (R_walked_any r s c _ _ _ zs _ KW.out HXN0.out hc30).mono ?_
      rintro e w4 ⟨rfl, hb4⟩
      rw [HW0.out]
      have HB4 := Lib.hid (HBw.out.trans (hb4.mono HBw.out.size))
      have HR4 := Lib.hid (HRr.out.step hb4)
      have c0 := (E0.step HB4.out).out
      have c1 := (E1.step HB4.out).out
      have c2 := (E2.step HB4.out).out
      clear hb4 KW HRr HBw
      go_wp2_with fail
      go_quiet (fail)
      generalize hwq : w4.drewN _ = w5
      have hb5 : Below w4.heap.size w4 w5 := by rw [← hwq]; (repeat' (first | (with_reducible exact Below.refl _ _) | (with_reducible assumption) | (with_reducible exact Bw.out (by with_reducible assumption)) | (with_reducible refine bw_alloc ?_ _) | (with_reducible refine bw_step ?_ (by with_reducible assumption)) | (with_reducible refine Below.alloc ?_ ?_ _) | (with_reducible refine Below.drew ?_) | (with_reducible refine below_drewN ?_ _) | (with_reducible refine Below.setCell ?_ ?_ _) | (with_reducible refine below_step ?_ (by with_reducible assumption) ?_) | (with_reducible exact Nat.le_refl _) | omega | (simp; omega) | (simp; done)))
      clear hwq
      have HB5 := Lib.hid (HB4.out.trans (hb5.mono HB4.out.size))
      have HR5 := Lib.hid (HR4.out.step hb5)
      have c0 := (E0.step HB5.out).out
      have c1 := (E1.step HB5.out).out
      have c2 := (E2.step HB5.out).out
      clear hb5 HB4 HR4
      by_cases hd : most < s - r
      · have hL : Hid (scL r s most = 0) := by show _ = _; unfold scL scW; omega
        have hW : Hid (scW r s most = s - r) := by show _ = _; unfold scW; omega
        have d0 := HR5.out.cell 0 rfl
        have d1 := HR5.out.cell 1 rfl
        have d2 := HR5.out.cell 2 rfl
        have d3 := HR5.out.cell 3 rfl
        have e0 := HR5.out.frozen 0
        have e1 := HR5.out.frozen 1
        have e2 := HR5.out.frozen 2
        have e3 := HR5.out.frozen 3
        have dl := HR5.out.lt
        have RZ := Row.set4' ⟨_, _, _, _, HR5.out⟩ (.int .i64 i) (.int .i64 (s - r)) (.slice none 0 0) (.slice none 0 0)
        have z0 := RZ.cell 0 rfl
        have z1 := RZ.cell 1 rfl
        have z2 := RZ.cell 2 rfl
        have z3 := RZ.cell 3 rfl
        have zl := RZ.lt
        go_wp2_with fail
        refine bodyPost_ret (v := .tuple #[.agg #[.int .i64 i, .int .i64 (s - r), .slice none 0 0, .slice none 0 0], .bool true, .int .i64 0]) (by simp [results, Try.results40, go_sem, z0, z1, z2, z3, zl, d0, d1, d2, d3, dl]) rfl ?_
        refine ⟨_, _, by rw [hW.out], by rw [hL.out, sellC_zero]; exact SlV.nil _, by rw [hL.out, sellS_zero]; exact SlV.nil _, ?_⟩
        have hBz := HB5.out
        (repeat' (first | (with_reducible exact Below.refl _ _) | (with_reducible assumption) | (with_reducible exact Bw.out (by with_reducible assumption)) | (with_reducible refine bw_alloc ?_ _) | (with_reducible refine bw_step ?_ (by with_reducible assumption)) | (with_reducible refine Below.alloc ?_ ?_ _) | (with_reducible refine Below.drew ?_) | (with_reducible refine below_drewN ?_ _) | (with_reducible refine Below.setCell ?_ ?_ _) | (with_reducible refine below_step ?_ (by with_reducible assumption) ?_) | (with_reducible exact Nat.le_refl _) | omega | (simp; omega) | (simp; done)))
      · have hd2 : s - r ≤ most := by omega
        obtain ⟨L, hLe⟩ : ∃ L, most + 1 - (s - r) = L := ⟨_, rfl⟩
        have hL : Hid (scL r s most = L) := by show _ = _; unfold scL scW; omega
        have hW : Hid (scW r s most = most + 1) := by show _ = _; unfold scW; omega
        have hL0 : 0 < L := by omega
        have hL1 : L ≤ 1401 := by omega
        obtain ⟨top, htop⟩ : ∃ t, topL zs c = t := ⟨_, rfl⟩
        obtain ⟨m, hm⟩ : ∃ m, top.length = m := ⟨_, rfl⟩
        have hm30 : m ≤ 30 := by rw [← hm, ← htop, topL_length]; omega
        have HTOP := Lib.hid htop
        have HTL := Lib.hid hm
        have HOK : Hid (TopOk zs (c : Int)) := ⟨HSB.out, by omega, by omega⟩
        clear hd htop hm
        obtain ⟨Bs, hBs⟩ : ∃ b, w5.heap.size = b := ⟨_, rfl⟩
        go_upto_region 13 with fail
        generalize hw6 : w5.alloc _ = w6
        try rw [hBs]
        have HRs6 : Hid (Row w6 Bs [.int .i64 i, .int .i64 (most + 1), .slice none 0 0, .slice none 0 0]) := by show Row _ _ _; rw [← hw6]; exact Row.new' _ [.int .i64 i, .int .i64 (most + 1), .slice none 0 0, .slice none 0 0] _ hBs.symm
        have hb6 : Below w5.heap.size w5 w6 := by rw [← hw6]; (repeat' (first | (with_reducible exact Below.refl _ _) | (with_reducible assumption) | (with_reducible exact Bw.out (by with_reducible assumption)) | (with_reducible refine bw_alloc ?_ _) | (with_reducible refine bw_step ?_ (by with_reducible assumption)) | (with_reducible refine Below.alloc ?_ ?_ _) | (with_reducible refine Below.drew ?_) | (with_reducible refine below_drewN ?_ _) | (with_reducible refine Below.setCell ?_ ?_ _) | (with_reducible refine below_step ?_ (by with_reducible assumption) ?_) | (with_reducible exact Nat.le_refl _) | omega | (simp; omega) | (simp; done)))
        have hs6 : w6.heap.size = Bs + 1 := by rw [← hw6, ← hBs]; simp
        clear hw6
        have HB6 := Lib.hid (HB5.out.trans (hb6.mono HB5.out.size))
        have HB56 : Hid (Below Bs w5 w6) := by show Below _ _ _; rw [← hBs]; exact hb6
        have HR6 := Lib.hid (HR5.out.step hb6)
        have c0 := (E0.step HB6.out).out
        have c1 := (E1.step HB6.out).out
        have c2 := (E2.step HB6.out).out
        have KW6 := Lib.hid (HK.out.step HB6.out)
        have hwB : w.heap.size < Bs := by rw [← hBs]; exact HR5.out.lt
        clear hb6
        go_wp2_with fail
        refine (R_top_new ad nn cc zs c _ KW6.out.sl HOK.out).mono ?_
        rintro e w7 ⟨v, rfl, hO7, hb7⟩
        rw [Int.toNat_natCast, HTOP.out] at hO7
        obtain ⟨TS, hTS⟩ : ∃ t, topS zs (c : Int).toNat = t := ⟨_, rfl⟩
        rw [hTS]
        obtain ⟨aT, cT, rfl, hO7⟩ := hO7.form m HTL.out
        obtain ⟨G, hG7⟩ : ∃ g, w7.heap.size = g := ⟨_, rfl⟩
        have HO7 := Lib.hid hO7
        have hTG : Hid (∀ g, (Value.slice aT m cT).ownBlock = some g → w6.heap.size ≤ g ∧ g < G) := fun g hg => by rw [← hG7]; exact hO7.lt hg
        have HRs7 := Lib.hid (HRs6.out.step hb7)
        have HB57 := Lib.hid (HB56.out.trans (hb7.mono (by omega)))
        have hBG : Bs < G := by have := hb7.size; omega
        have hG8 : G ≤ w7.heap.size := by omega
        clear hb7 hO7 hTS KW6 HR6 HB6 HB56 HRs6 c0 c1 c2
        go_wp2_with fail
        go_loopw [17, 18] (fun lf kk wr => ∃ (j : Nat) (F : Int) (mm : Nat) (a1 : Option Addr) (d1 : Nat) (a2 : Option Addr) (d2 : Nat), j ≤ m ∧ kk = .int .i64 j ∧ lf = .int .i64 F ∧ 0 ≤ F ∧ F ≤ 1401 ∧ Hid (lfI zs L (top.take j) = F) ∧ Hid (Row wr Bs [.int .i64 i, .int .i64 (most + 1), .slice a1 mm d1, .slice a2 mm d2]) ∧ Hid (OwnV wr G (.slice a1 mm d1) (sellC zs L (top.take j))) ∧ Hid (OwnV wr G (.slice a2 mm d2) (sellS zs L (top.take j))) ∧ Hid (∀ g, (Value.slice a1 mm d1).ownBlock = some g → (Value.slice a2 mm d2).ownBlock ≠ some g) ∧ Hid (OwnV wr w6.heap.size (.slice aT m cT) top) ∧ Hid (Below Bs w5 wr) ∧ G ≤ wr.heap.size) (fun _ kk _ => m - (intOf kk).toNat)
        case atStart => exact ⟨0, L, 0, none, 0, none, 0, Nat.zero_le _, rfl, rfl, by omega, by omega, rfl, HRs7.out, OwnV.nil _ _, OwnV.nil _ _, (fun g hg => by simp [Value.ownBlock] at hg), HO7.out, HB57.out, hG8⟩
        case round =>
          obtain ⟨j, F, mm, a1, d1, a2, d2, hj, rfl, rfl, hF0, hF1, hF, hRs, hO1, hO2, hSep, hT, hBW, hG⟩ := hrel
          have HBww := Lib.hid (HB5.out.trans (hBW.out.mono (by omega)))
          have HLC := Lib.hid hO1.out.len
          have HLS := Lib.hid hO2.out.len
          by_cases hlt : j < m
          · obtain ⟨x, hx⟩ : ∃ x, top.getD j 0 = x := ⟨_, rfl⟩
            have hjt : j < top.length := by rw [HTL.out]; exact hlt
            have hxm : 0 ≤ x ∧ x < zs.length := topL_mem (k := c) (by rw [HTOP.out, ← hx]; exact getD_mem_int hjt)
            obtain ⟨xn, rfl⟩ := Int.eq_ofNat_of_zero_le hxm.1
            have hxn : xn < nn := by have := HK.out.1; omega
            have HXN := Lib.hid hx
            obtain ⟨gT, cT', e, hgT, _, _, _⟩ := hT.out.own (by omega)
            simp only [Value.slice.injEq] at e
            obtain ⟨rfl, hmt, rfl⟩ := e
            clear hmt
            obtain ⟨hgT1, hgT2⟩ := hTG.out gT rfl
            obtain ⟨bs, os, had, _, hsc⟩ := HK.out.sl.at (by omega)
            subst had
            obtain ⟨z, hz⟩ : ∃ z, zs.getD xn 0 = z := ⟨_, rfl⟩
            have hshr : shr zs (xn : Int) = z := by unfold shr; rw [Int.toNat_natCast]; exact hz
            have hzb := HP2.out z (by rw [← hz]; exact getD_mem_int (by have := HK.out.1; omega))
            obtain ⟨z0, z1⟩ := hzb
            have hst := sell_step hjt hF.out hx hshr
            have cs := ((show CellAt w bs (os + xn) (.int .i64 z) from by rw [← hz]; exact hsc xn hxn).step HBww.out).out
            have c2 := (E2.step HBww.out).out
            have ct0 : wr.cell? ⟨gT, j, none⟩ = some (.int .i64 (xn : Int)) := by
              obtain ⟨a', c', e', h1, _, _⟩ := hT.out.sl
              cases e'
              obtain ⟨b'', o'', e'', hc⟩ := h1.2 j hjt
              cases e''
              rw [HXN.out, Nat.zero_add] at hc
              exact hc
            have hml : mm ≤ 1000 := by
              have h1 := (sellC_prefix zs (top.take j) L).length_le
              rw [HLC.out, List.length_take] at h1
              omega
            have i3 : (0 : Int) ≤ (j : Int) := by omega
            have i4 : (j : Int) < (m : Int) := by omega
            have i5 : (0 : Int) ≤ (xn : Int) := by omega
            have i6 : (xn : Int) < (nn : Int) := by omega
            clear hx hz hshr hsc hxm hjt hF HBww
            by_cases hFz : F = 0
            · obtain ⟨hs1, hs2, hs3⟩ := hst.1 hFz
              have HSC0 := Lib.hid hs1
              have HSS0 := Lib.hid hs2
              have HLF0 := Lib.hid hs3
              have hFn : F ≤ 0 := by omega
              have HFZ := Lib.hid hFz
              clear hs1 hs2 hs3 hst
              rcases (show F < z ∨ F = z by omega) with hc | hc
              · clear hFz
                go_wp2_with fail
                go_quiet (fail)
                generalize hwq : wr.drewN _ = wq
                have hbq : Below wr.heap.size wr wq := by rw [← hwq]; (repeat' (first | (with_reducible exact Below.refl _ _) | (with_reducible assumption) | (with_reducible exact Bw.out (by with_reducible assumption)) | (with_reducible refine bw_alloc ?_ _) | (with_reducible refine bw_step ?_ (by with_reducible assumption)) | (with_reducible refine Below.alloc ?_ ?_ _) | (with_reducible refine Below.drew ?_) | (with_reducible refine below_drewN ?_ _) | (with_reducible refine Below.setCell ?_ ?_ _) | (with_reducible refine below_step ?_ (by with_reducible assumption) ?_) | (with_reducible exact Nat.le_refl _) | omega | (simp; omega) | (simp; done)))
                clear hwq
                have HRs := Lib.hid (hRs.out.step hbq)
                have HO1 := Lib.hid (hO1.out.step hbq)
                have HO2 := Lib.hid (hO2.out.step hbq)
                have HT := Lib.hid (hT.out.step hbq)
                have HBW := Lib.hid (hBW.out.trans (hbq.mono (by have := hBW.out.size; omega)))
                have hGq : G ≤ wq.heap.size := Nat.le_trans hG hbq.size
                clear hbq hRs hO1 hO2 hT hBW
                go_wp2_with fail
                go_roundw
                case rel =>
                  (repeat apply Exists.intro (α := Value))
                  first
                  | exact ⟨j + 1, 0, mm, a1, d1, a2, d2, by omega, by go_num, (by first | rfl | exact congrArg (Value.int .i64) (by omega)), by omega, by omega, HLF0.out, HRs.out, by show OwnV _ _ _ _; rw [HSC0.out]; exact HO1.out, by show OwnV _ _ _ _; rw [HSS0.out]; exact HO2.out, hSep.out, HT.out, HBW.out, hGq⟩
                  | (refine ⟨?_, rfl⟩; exact ⟨j + 1, 0, mm, a1, d1, a2, d2, by omega, by go_num, (by first | rfl | exact congrArg (Value.int .i64) (by omega)), by omega, by omega, HLF0.out, HRs.out, by show OwnV _ _ _ _; rw [HSC0.out]; exact HO1.out, by show OwnV _ _ _ _; rw [HSS0.out]; exact HO2.out, hSep.out, HT.out, HBW.out, hGq⟩)
                case measure => simp [intOf]; omega
              · subst hc
                clear hFz
                go_wp2_with fail
                go_quiet (fail)
                generalize hwq : wr.drewN _ = wq
                have hbq : Below wr.heap.size wr wq := by rw [← hwq]; (repeat' (first | (with_reducible exact Below.refl _ _) | (with_reducible assumption) | (with_reducible exact Bw.out (by with_reducible assumption)) | (with_reducible refine bw_alloc ?_ _) | (with_reducible refine bw_step ?_ (by with_reducible assumption)) | (with_reducible refine Below.alloc ?_ ?_ _) | (with_reducible refine Below.drew ?_) | (with_reducible refine below_drewN ?_ _) | (with_reducible refine Below.setCell ?_ ?_ _) | (with_reducible refine below_step ?_ (by with_reducible assumption) ?_) | (with_reducible exact Nat.le_refl _) | omega | (simp; omega) | (simp; done)))
                clear hwq
                have HRs := Lib.hid (hRs.out.step hbq)
                have HO1 := Lib.hid (hO1.out.step hbq)
                have HO2 := Lib.hid (hO2.out.step hbq)
                have HT := Lib.hid (hT.out.step hbq)
                have HBW := Lib.hid (hBW.out.trans (hbq.mono (by have := hBW.out.size; omega)))
                have hGq : G ≤ wq.heap.size := Nat.le_trans hG hbq.size
                clear hbq hRs hO1 hO2 hT hBW
                go_wp2_with fail
                go_roundw
                case rel =>
                  (repeat apply Exists.intro (α := Value))
                  first
                  | exact ⟨j + 1, 0, mm, a1, d1, a2, d2, by omega, by go_num, (by first | rfl | exact congrArg (Value.int .i64) (by omega)), by omega, by omega, HLF0.out, HRs.out, by show OwnV _ _ _ _; rw [HSC0.out]; exact HO1.out, by show OwnV _ _ _ _; rw [HSS0.out]; exact HO2.out, hSep.out, HT.out, HBW.out, hGq⟩
                  | (refine ⟨?_, rfl⟩; exact ⟨j + 1, 0, mm, a1, d1, a2, d2, by omega, by go_num, (by first | rfl | exact congrArg (Value.int .i64) (by omega)), by omega, by omega, HLF0.out, HRs.out, by show OwnV _ _ _ _; rw [HSC0.out]; exact HO1.out, by show OwnV _ _ _ _; rw [HSS0.out]; exact HO2.out, hSep.out, HT.out, HBW.out, hGq⟩)
                case measure => simp [intOf]; omega
            · obtain ⟨hs1, hs2, hs3⟩ := hst.2 hFz
              have hFp : 0 < F := by omega
              have HSC1 := Lib.hid hs1
              clear hs1 hst hFz
              rcases (show F < z ∨ F = z ∨ z < F by omega) with hc | hc | hc
              · have HSS1 : Hid (sellS zs L (top.take (j + 1)) = sellS zs L (top.take j) ++ [F]) := by show _ = _; rw [hs2, show min F z = F by omega]
                have HLF1 : Hid (lfI zs L (top.take (j + 1)) = F - F) := by show _ = _; rw [hs3, show min F z = F by omega]
                clear hs2 hs3
                go_wp2_with fail
                go_quiet (fail)
                generalize hwq : wr.drewN _ = wq
                have hbq : Below wr.heap.size wr wq := by rw [← hwq]; (repeat' (first | (with_reducible exact Below.refl _ _) | (with_reducible assumption) | (with_reducible exact Bw.out (by with_reducible assumption)) | (with_reducible refine bw_alloc ?_ _) | (with_reducible refine bw_step ?_ (by with_reducible assumption)) | (with_reducible refine Below.alloc ?_ ?_ _) | (with_reducible refine Below.drew ?_) | (with_reducible refine below_drewN ?_ _) | (with_reducible refine Below.setCell ?_ ?_ _) | (with_reducible refine below_step ?_ (by with_reducible assumption) ?_) | (with_reducible exact Nat.le_refl _) | omega | (simp; omega) | (simp; done)))
                clear hwq
                have HRs := Lib.hid (hRs.out.step hbq)
                have HO1 := Lib.hid (hO1.out.step hbq)
                have HO2 := Lib.hid (hO2.out.step hbq)
                have HT := Lib.hid (hT.out.step hbq)
                have HBW := Lib.hid (hBW.out.trans (hbq.mono (by have := hBW.out.size; omega)))
                have hGq : G ≤ wq.heap.size := Nat.le_trans hG hbq.size
                clear hbq hRs hO1 hO2 hT hBW
                go_wp2_with fail
                have ct : wq.cell? ⟨gT, j, none⟩ = some (.int .i64 (xn : Int)) := by
                  have := HT.out.sl
                  obtain ⟨a', c', e', h1, _, _⟩ := this
                  cases e'
                  obtain ⟨b'', o'', e'', hc⟩ := h1.2 j (by rw [HTL.out]; exact hlt)
                  cases e''
                  rw [HXN.out, Nat.zero_add] at hc
                  exact hc
                have c2 := HRs.out.cell 2 rfl
                have c3 := HRs.out.cell 3 rfl
                have f2 := HRs.out.frozen 2
                have f3 := HRs.out.frozen 3
                have lq := HRs.out.lt
                have HKS : Hid (∀ w', Ch (fun k => (Value.slice a1 mm d1).ownBlock = some k) wq w' → w'.cell? ⟨Bs, 2, none⟩ = some (.slice a1 mm d1) ∧ w'.cell? ⟨gT, j, none⟩ = some (.int .i64 (xn : Int))) := fun w' h => by
                  have hb1 : ∀ g, (Value.slice a1 mm d1).ownBlock = some g → G ≤ g := fun g hg => (HO1.out.lt hg).1
                  refine ⟨(HRs.out.ch h (fun hh => by have := hb1 _ hh; omega)).cell 2 rfl, ?_⟩
                  have e := h.2.2.2.2 gT (World.block_lt_of_cell? _ _ ct) (fun hh => by have := hb1 _ hh; omega)
                  rw [← ct]; simp only [World.cell?, e]
                refine AnyJ.beginP (fun w' : World => w'.cell? ⟨Bs, 2, none⟩ = some (.slice a1 mm d1) ∧ w'.cell? ⟨gT, j, none⟩ = some (.int .i64 (xn : Int))) (fun q => decide (q ≤ 7)) (by kernel_rfl) (HKS.out _ (Ch.drew (Ch.refl _ _))) (fun hS => ?_)
                refine AnyJ.takeD (i := 0) (d := some 107) (v := ?_) rfl (by kernel_rfl) (by kernel_rfl) (by kernel_rfl) (by kernel_rfl) (by kernel_rfl) (fun _ _ _ h => h) (Or.inl ⟨by kernel_rfl, ?_⟩) hS ?_
                rotate_left
                · intro w' hS
                  clear hS
                  go_simp
                  try with_reducible rfl
                refine AnyJ.takeD (i := 1) (d := some 108) (v := ?_) rfl (by kernel_rfl) (by kernel_rfl) (by kernel_rfl) (by kernel_rfl) (by kernel_rfl) (fun _ _ _ h => h) (Or.inl ⟨by kernel_rfl, ?_⟩) hS ?_
                rotate_left
                · intro w' hS
                  obtain ⟨sF0, sF1⟩ := hS
                  go_simp
                  try with_reducible rfl
                refine AnyJ.takeD (i := 2) (d := some 109) (v := ?_) rfl (by kernel_rfl) (by kernel_rfl) (by kernel_rfl) (by kernel_rfl) (by kernel_rfl) (fun _ _ _ h => h) (Or.inl ⟨by kernel_rfl, ?_⟩) hS ?_
                rotate_left
                · intro w' hS
                  clear hS
                  go_simp
                  try with_reducible rfl
                refine AnyJ.takeD (i := 3) (d := some 110) (v := ?_) rfl (by kernel_rfl) (by kernel_rfl) (by kernel_rfl) (by kernel_rfl) (by kernel_rfl) (fun _ _ _ h => h) (Or.inl ⟨by kernel_rfl, ?_⟩) hS ?_
                rotate_left
                · intro w' hS
                  clear hS
                  go_simp
                  try with_reducible rfl
                refine AnyJ.takeD (i := 4) (d := some 111) (v := ?_) rfl (by kernel_rfl) (by kernel_rfl) (by kernel_rfl) (by kernel_rfl) (by kernel_rfl) (fun _ _ _ h => h) (Or.inl ⟨by kernel_rfl, ?_⟩) hS ?_
                rotate_left
                · intro w' hS
                  clear hS
                  go_simp
                  try with_reducible rfl
                refine AnyJ.takeD (i := 5) (d := some 112) (v := ?_) rfl (by kernel_rfl) (by kernel_rfl) (by kernel_rfl) (by kernel_rfl) (by kernel_rfl) (fun _ _ _ h => h) (Or.inl ⟨by kernel_rfl, ?_⟩) hS ?_
                rotate_left
                · intro w' hS
                  obtain ⟨sF0, sF1⟩ := hS
                  go_simp
                  try with_reducible rfl
                clear hS
                refine AnyJ.one (i := 6) (by kernel_rfl) rfl (fun Kz hKz => ?_)
                go_simp
                have hCA : Ch (fun k => (Value.slice a1 mm d1).ownBlock = some k) wq (wq.alloc (.cells #[.int .i64 (xn : Int)] 3)) := (Ch.refl _ _).alloc _
                generalize hwA : wq.alloc (.cells #[.int .i64 (xn : Int)] 3) = wA at hCA
                have RA : Row wA wq.heap.size [.int .i64 (xn : Int)] := by rw [← hwA]; exact Row.new' _ [_] _ rfl
                have HOA := Lib.hid (show OwnV wA G (.slice a1 mm d1) (sellC zs L (top.take j)) by rw [← hwA]; exact HO1.out.alloc _)
                have hsA : wA.heap.size = wq.heap.size + 1 := by rw [← hwA]; simp
                refine hKz _ _ (fun _ => HKS.out _ hCA) ?_
                clear hKz Kz
                refine AnyJ.one (i := 7) (by kernel_rfl) rfl (fun Kz hKz => ?_)
                refine step_app_int rfl (.tmp 108) (.tmp 113) 22 rfl Try.underlying22 G (.slice a1 mm d1) (sellC zs L (top.take j)) (by simp [Act.eval, Act.put]) HOA.out wq.heap.size 1 (xn : Int) (by simp [Act.eval, Act.put]) (RA.cell 0 rfl) (by rw [HLC.out]; omega) (by show G ≤ wA.heap.size; omega) ?_
                intro g1 cp1 WB ho1 hg1 hor1
                have hCB : Ch (fun k => (Value.slice a1 mm d1).ownBlock = some k) wq WB := hCA.drew.trans (Ch.of_grown hg1 (fun k e => e))
                refine hKz _ _ (fun _ => HKS.out _ hCB) ?_
                clear hKz Kz
                rw [HLC.out] at ho1 ⊢
                have hG1 : ∀ g, (Value.slice a1 mm d1).ownBlock = some g → G ≤ g := fun g hg => (HO1.out.lt hg).1
                have HRsB := Lib.hid (HRs.out.ch hCB (fun hh => by have := hG1 _ hh; omega))
                have HO2B := Lib.hid (HO2.out.ch hCB (fun g hg hh => hSep.out g hh hg))
                have HTB := Lib.hid (HT.out.ch hCB (fun g hg hh => by have := hG1 _ hh; have e : gT = g := (by simpa [Value.ownBlock] using hg); omega))
                have HBWB := Lib.hid (hCB.below HBW.out (fun k hk => by have := hG1 _ hk; omega) (by omega))
                have HSB2 : Hid (∀ g, (Value.slice (some ⟨g1, 0, none⟩) (mm + 1) cp1).ownBlock = some g → (Value.slice a2 mm d2).ownBlock ≠ some g) := fun g hg h2 => by
                  have e : g1 = g := by simpa [Value.ownBlock] using hg
                  subst e
                  rcases hor1 with h | h
                  · exact hSep.out _ h h2
                  · have h' : g1 = wA.heap.size := h
                    have := (HO2.out.lt h2).2; omega
                have HO1B := Lib.hid ho1
                have hGB : G ≤ WB.heap.size := Nat.le_trans hGq hCB.size
                clear ho1 hg1 hor1 hCB hCA HKS hG1 HRs HO1 HO2 HT HBW hSep c2 c3 f2 f3 lq ct RA HOA hsA hwA hGq
                refine AnyJ.takeY (i := 8) (v := ?_) rfl (by kernel_rfl) (by kernel_rfl) (by kernel_rfl) rfl (fun _ _ _ h => h) (Or.inl ⟨by rfl, ?_⟩) ?_
                rotate_left
                · intro w'
                  go_simp
                  try with_reducible rfl
                have c2B := HRsB.out.cell 2 rfl
                have f2B := HRsB.out.frozen 2
                have lB := HRsB.out.lt
                refine AnyJ.one (i := 9) (by kernel_rfl) rfl (fun Kz hKz => ?_)
                go_simp
                obtain ⟨WC, hWC⟩ : ∃ wd, WB.setCell ⟨Bs, 2, none⟩ (.slice (some ⟨g1, 0, none⟩) (mm + 1) cp1) = wd := ⟨_, rfl⟩
                rw [hWC]
                refine hKz _ _ (fun h => absurd h (by decide)) ?_
                clear hKz Kz
                refine AnyJ.done (by kernel_rfl) ?_ _
                try simp only [Act.put, List.setIfInBounds_toArray, List.set_cons_zero, List.set_cons_succ]
                have hSC : Ch (fun k => k = Bs) WB WC := by rw [← hWC]; exact Ch.setCell (o := fun k => k = Bs) (p := ⟨Bs, 2, none⟩) (Ch.refl _ _) rfl _
                have HRsC : Hid (Row WC Bs [.int .i64 i, .int .i64 (most + 1), .slice (some ⟨g1, 0, none⟩) (mm + 1) cp1, .slice a2 mm d2]) := by show Row _ _ _; rw [← hWC]; exact HRsB.out.putAt 2 _ rfl
                have HO1C := Lib.hid (HO1B.out.ch hSC (fun g hg e => by have := (HO1B.out.lt hg).1; omega))
                have HO2C := Lib.hid (HO2B.out.ch hSC (fun g hg e => by have := (HO2B.out.lt hg).1; omega))
                have HTC := Lib.hid (HTB.out.ch hSC (fun g hg e => by have e2 : gT = g := (by simpa [Value.ownBlock] using hg); omega))
                have HBWC := Lib.hid (hSC.below HBWB.out (fun k hk => by omega) (by omega))
                have hGC : G ≤ WC.heap.size := Nat.le_trans hGB hSC.size
                clear hWC hSC HRsB HO1B HO2B HTB HBWB hGB c2B f2B lB
                have c3C := HRsC.out.cell 3 rfl
                have lC := HRsC.out.lt
                go_wp2_with (at_builtin; refine wpList_append_int_at rfl _ _ _ rfl Try.underlying22 G (.slice a2 mm d2) (sellS zs L (top.take j)) rfl (HO2C.out.alloc _) WC.heap.size 1 F rfl ((Row.new' WC [_] _ rfl).cell 0 rfl) (by rw [HLS.out]; omega) (by simp; omega) ?_; intro v' WD ho2 hg2 hor2; obtain ⟨a3, d3, rfl, ho2⟩ := ho2.form (mm + 1) (by rw [List.length_append, HLS.out]; rfl); have hCD : Ch (fun k => (Value.slice a2 mm d2).ownBlock = some k) WC WD := ((Ch.refl _ _).alloc _).trans (Ch.of_grown hg2 (fun k e => e)); have HRsD := Lib.hid (HRsC.out.ch hCD (fun hh => by have := (HO2C.out.lt hh).1; omega)); have c3D := HRsD.out.cell 3 rfl; have f3D := HRsD.out.frozen 3; have lD := HRsD.out.lt)
                have HO1D := Lib.hid (HO1C.out.ch hCD (fun g hg hh => HSB2.out g hg hh))
                have HTD := Lib.hid (HTC.out.ch hCD (fun g hg hh => by have := (HO2C.out.lt hh).1; have e2 : gT = g := (by simpa [Value.ownBlock] using hg); omega))
                have HBWD := Lib.hid (hCD.below HBWC.out (fun k hk => by have := (HO2C.out.lt hk).1; omega) (by omega))
                have HSD : Hid (∀ g, (Value.slice (some ⟨g1, 0, none⟩) (mm + 1) cp1).ownBlock = some g → (Value.slice a3 (mm + 1) d3).ownBlock ≠ some g) := fun g hg h2 => by
                  rcases hor2 with h | h
                  · rw [h] at h2; exact HSB2.out g hg h2
                  · rw [h] at h2
                    have := (HO1C.out.lt hg).2
                    simp at h2; omega
                have HO2D := Lib.hid ho2
                have hGD : G ≤ WD.heap.size := Nat.le_trans hGC hCD.size
                clear ho2 hg2 hor2 hCD HRsC HO1C HO2C HTC HBWC HSB2 hGC c3C lC
                go_wp2_with fail
                go_roundw
                case rel =>
                  have hSE : ∀ u : Value, Ch (fun k => k = Bs) WD (WD.setCell ⟨Bs, 3, none⟩ u) := fun u => Ch.setCell (o := fun k => k = Bs) (p := ⟨Bs, 3, none⟩) (Ch.refl _ _) rfl _
                  refine ⟨j + 1, F - F, mm + 1, some ⟨g1, 0, none⟩, cp1, a3, d3, by omega, by go_num, (by first | rfl | exact congrArg (Value.int .i64) (by omega)), by omega, by omega, HLF1.out, HRsD.out.putAt 3 _ rfl, ?_, ?_, HSD.out, ?_, ?_, ?_⟩
                  · show OwnV _ _ _ _
                    rw [HSC1.out]
                    exact HO1D.out.ch (hSE _) (fun g hg e => by have := (HO1D.out.lt hg).1; omega)
                  · show OwnV _ _ _ _
                    rw [HSS1.out]
                    exact HO2D.out.ch (hSE _) (fun g hg e => by have := (HO2D.out.lt hg).1; omega)
                  · exact HTD.out.ch (hSE _) (fun g hg e => by have e2 : gT = g := (by simpa [Value.ownBlock] using hg); omega)
                  · exact (hSE _).below HBWD.out (fun k hk => by omega) (by omega)
                  · exact Nat.le_trans hGD (hSE _).size
                case measure => simp [intOf]; omega
              · subst hc
                have HSS1 : Hid (sellS zs L (top.take (j + 1)) = sellS zs L (top.take j) ++ [F]) := by show _ = _; rw [hs2, show min F F = F by omega]
                have HLF1 : Hid (lfI zs L (top.take (j + 1)) = F - F) := by show _ = _; rw [hs3, show min F F = F by omega]
                clear hs2 hs3
                go_wp2_with fail
                go_quiet (fail)
                generalize hwq : wr.drewN _ = wq
                have hbq : Below wr.heap.size wr wq := by rw [← hwq]; (repeat' (first | (with_reducible exact Below.refl _ _) | (with_reducible assumption) | (with_reducible exact Bw.out (by with_reducible assumption)) | (with_reducible refine bw_alloc ?_ _) | (with_reducible refine bw_step ?_ (by with_reducible assumption)) | (with_reducible refine Below.alloc ?_ ?_ _) | (with_reducible refine Below.drew ?_) | (with_reducible refine below_drewN ?_ _) | (with_reducible refine Below.setCell ?_ ?_ _) | (with_reducible refine below_step ?_ (by with_reducible assumption) ?_) | (with_reducible exact Nat.le_refl _) | omega | (simp; omega) | (simp; done)))
                clear hwq
                have HRs := Lib.hid (hRs.out.step hbq)
                have HO1 := Lib.hid (hO1.out.step hbq)
                have HO2 := Lib.hid (hO2.out.step hbq)
                have HT := Lib.hid (hT.out.step hbq)
                have HBW := Lib.hid (hBW.out.trans (hbq.mono (by have := hBW.out.size; omega)))
                have hGq : G ≤ wq.heap.size := Nat.le_trans hG hbq.size
                clear hbq hRs hO1 hO2 hT hBW
                go_wp2_with fail
                have ct : wq.cell? ⟨gT, j, none⟩ = some (.int .i64 (xn : Int)) := by
                  have := HT.out.sl
                  obtain ⟨a', c', e', h1, _, _⟩ := this
                  cases e'
                  obtain ⟨b'', o'', e'', hc⟩ := h1.2 j (by rw [HTL.out]; exact hlt)
                  cases e''
                  rw [HXN.out, Nat.zero_add] at hc
                  exact hc
                have c2 := HRs.out.cell 2 rfl
                have c3 := HRs.out.cell 3 rfl
                have f2 := HRs.out.frozen 2
                have f3 := HRs.out.frozen 3
                have lq := HRs.out.lt
                have HKS : Hid (∀ w', Ch (fun k => (Value.slice a1 mm d1).ownBlock = some k) wq w' → w'.cell? ⟨Bs, 2, none⟩ = some (.slice a1 mm d1) ∧ w'.cell? ⟨gT, j, none⟩ = some (.int .i64 (xn : Int))) := fun w' h => by
                  have hb1 : ∀ g, (Value.slice a1 mm d1).ownBlock = some g → G ≤ g := fun g hg => (HO1.out.lt hg).1
                  refine ⟨(HRs.out.ch h (fun hh => by have := hb1 _ hh; omega)).cell 2 rfl, ?_⟩
                  have e := h.2.2.2.2 gT (World.block_lt_of_cell? _ _ ct) (fun hh => by have := hb1 _ hh; omega)
                  rw [← ct]; simp only [World.cell?, e]
                refine AnyJ.beginP (fun w' : World => w'.cell? ⟨Bs, 2, none⟩ = some (.slice a1 mm d1) ∧ w'.cell? ⟨gT, j, none⟩ = some (.int .i64 (xn : Int))) (fun q => decide (q ≤ 7)) (by kernel_rfl) (HKS.out _ (Ch.drew (Ch.refl _ _))) (fun hS => ?_)
                refine AnyJ.takeD (i := 0) (d := some 107) (v := ?_) rfl (by kernel_rfl) (by kernel_rfl) (by kernel_rfl) (by kernel_rfl) (by kernel_rfl) (fun _ _ _ h => h) (Or.inl ⟨by kernel_rfl, ?_⟩) hS ?_
                rotate_left
                · intro w' hS
                  clear hS
                  go_simp
                  try with_reducible rfl
                refine AnyJ.takeD (i := 1) (d := some 108) (v := ?_) rfl (by kernel_rfl) (by kernel_rfl) (by kernel_rfl) (by kernel_rfl) (by kernel_rfl) (fun _ _ _ h => h) (Or.inl ⟨by kernel_rfl, ?_⟩) hS ?_
                rotate_left
                · intro w' hS
                  obtain ⟨sF0, sF1⟩ := hS
                  go_simp
                  try with_reducible rfl
                refine AnyJ.takeD (i := 2) (d := some 109) (v := ?_) rfl (by kernel_rfl) (by kernel_rfl) (by kernel_rfl) (by kernel_rfl) (by kernel_rfl) (fun _ _ _ h => h) (Or.inl ⟨by kernel_rfl, ?_⟩) hS ?_
                rotate_left
                · intro w' hS
                  clear hS
                  go_simp
                  try with_reducible rfl
                refine AnyJ.takeD (i := 3) (d := some 110) (v := ?_) rfl (by kernel_rfl) (by kernel_rfl) (by kernel_rfl) (by kernel_rfl) (by kernel_rfl) (fun _ _ _ h => h) (Or.inl ⟨by kernel_rfl, ?_⟩) hS ?_
                rotate_left
                · intro w' hS
                  clear hS
                  go_simp
                  try with_reducible rfl
                refine AnyJ.takeD (i := 4) (d := some 111) (v := ?_) rfl (by kernel_rfl) (by kernel_rfl) (by kernel_rfl) (by kernel_rfl) (by kernel_rfl) (fun _ _ _ h => h) (Or.inl ⟨by kernel_rfl, ?_⟩) hS ?_
                rotate_left
                · intro w' hS
                  clear hS
                  go_simp
                  try with_reducible rfl
                refine AnyJ.takeD (i := 5) (d := some 112) (v := ?_) rfl (by kernel_rfl) (by kernel_rfl) (by kernel_rfl) (by kernel_rfl) (by kernel_rfl) (fun _ _ _ h => h) (Or.inl ⟨by kernel_rfl, ?_⟩) hS ?_
                rotate_left
                · intro w' hS
                  obtain ⟨sF0, sF1⟩ := hS
                  go_simp
                  try with_reducible rfl
                clear hS
                refine AnyJ.one (i := 6) (by kernel_rfl) rfl (fun Kz hKz => ?_)
                go_simp
                have hCA : Ch (fun k => (Value.slice a1 mm d1).ownBlock = some k) wq (wq.alloc (.cells #[.int .i64 (xn : Int)] 3)) := (Ch.refl _ _).alloc _
                generalize hwA : wq.alloc (.cells #[.int .i64 (xn : Int)] 3) = wA at hCA
                have RA : Row wA wq.heap.size [.int .i64 (xn : Int)] := by rw [← hwA]; exact Row.new' _ [_] _ rfl
                have HOA := Lib.hid (show OwnV wA G (.slice a1 mm d1) (sellC zs L (top.take j)) by rw [← hwA]; exact HO1.out.alloc _)
                have hsA : wA.heap.size = wq.heap.size + 1 := by rw [← hwA]; simp
                refine hKz _ _ (fun _ => HKS.out _ hCA) ?_
                clear hKz Kz
                refine AnyJ.one (i := 7) (by kernel_rfl) rfl (fun Kz hKz => ?_)
                refine step_app_int rfl (.tmp 108) (.tmp 113) 22 rfl Try.underlying22 G (.slice a1 mm d1) (sellC zs L (top.take j)) (by simp [Act.eval, Act.put]) HOA.out wq.heap.size 1 (xn : Int) (by simp [Act.eval, Act.put]) (RA.cell 0 rfl) (by rw [HLC.out]; omega) (by show G ≤ wA.heap.size; omega) ?_
                intro g1 cp1 WB ho1 hg1 hor1
                have hCB : Ch (fun k => (Value.slice a1 mm d1).ownBlock = some k) wq WB := hCA.drew.trans (Ch.of_grown hg1 (fun k e => e))
                refine hKz _ _ (fun _ => HKS.out _ hCB) ?_
                clear hKz Kz
                rw [HLC.out] at ho1 ⊢
                have hG1 : ∀ g, (Value.slice a1 mm d1).ownBlock = some g → G ≤ g := fun g hg => (HO1.out.lt hg).1
                have HRsB := Lib.hid (HRs.out.ch hCB (fun hh => by have := hG1 _ hh; omega))
                have HO2B := Lib.hid (HO2.out.ch hCB (fun g hg hh => hSep.out g hh hg))
                have HTB := Lib.hid (HT.out.ch hCB (fun g hg hh => by have := hG1 _ hh; have e : gT = g := (by simpa [Value.ownBlock] using hg); omega))
                have HBWB := Lib.hid (hCB.below HBW.out (fun k hk => by have := hG1 _ hk; omega) (by omega))
                have HSB2 : Hid (∀ g, (Value.slice (some ⟨g1, 0, none⟩) (mm + 1) cp1).ownBlock = some g → (Value.slice a2 mm d2).ownBlock ≠ some g) := fun g hg h2 => by
                  have e : g1 = g := by simpa [Value.ownBlock] using hg
                  subst e
                  rcases hor1 with h | h
                  · exact hSep.out _ h h2
                  · have h' : g1 = wA.heap.size := h
                    have := (HO2.out.lt h2).2; omega
                have HO1B := Lib.hid ho1
                have hGB : G ≤ WB.heap.size := Nat.le_trans hGq hCB.size
                clear ho1 hg1 hor1 hCB hCA HKS hG1 HRs HO1 HO2 HT HBW hSep c2 c3 f2 f3 lq ct RA HOA hsA hwA hGq
                refine AnyJ.takeY (i := 8) (v := ?_) rfl (by kernel_rfl) (by kernel_rfl) (by kernel_rfl) rfl (fun _ _ _ h => h) (Or.inl ⟨by rfl, ?_⟩) ?_
                rotate_left
                · intro w'
                  go_simp
                  try with_reducible rfl
                have c2B := HRsB.out.cell 2 rfl
                have f2B := HRsB.out.frozen 2
                have lB := HRsB.out.lt
                refine AnyJ.one (i := 9) (by kernel_rfl) rfl (fun Kz hKz => ?_)
                go_simp
                obtain ⟨WC, hWC⟩ : ∃ wd, WB.setCell ⟨Bs, 2, none⟩ (.slice (some ⟨g1, 0, none⟩) (mm + 1) cp1) = wd := ⟨_, rfl⟩
                rw [hWC]
                refine hKz _ _ (fun h => absurd h (by decide)) ?_
                clear hKz Kz
                refine AnyJ.done (by kernel_rfl) ?_ _
                try simp only [Act.put, List.setIfInBounds_toArray, List.set_cons_zero, List.set_cons_succ]
                have hSC : Ch (fun k => k = Bs) WB WC := by rw [← hWC]; exact Ch.setCell (o := fun k => k = Bs) (p := ⟨Bs, 2, none⟩) (Ch.refl _ _) rfl _
                have HRsC : Hid (Row WC Bs [.int .i64 i, .int .i64 (most + 1), .slice (some ⟨g1, 0, none⟩) (mm + 1) cp1, .slice a2 mm d2]) := by show Row _ _ _; rw [← hWC]; exact HRsB.out.putAt 2 _ rfl
                have HO1C := Lib.hid (HO1B.out.ch hSC (fun g hg e => by have := (HO1B.out.lt hg).1; omega))
                have HO2C := Lib.hid (HO2B.out.ch hSC (fun g hg e => by have := (HO2B.out.lt hg).1; omega))
                have HTC := Lib.hid (HTB.out.ch hSC (fun g hg e => by have e2 : gT = g := (by simpa [Value.ownBlock] using hg); omega))
                have HBWC := Lib.hid (hSC.below HBWB.out (fun k hk => by omega) (by omega))
                have hGC : G ≤ WC.heap.size := Nat.le_trans hGB hSC.size
                clear hWC hSC HRsB HO1B HO2B HTB HBWB hGB c2B f2B lB
                have c3C := HRsC.out.cell 3 rfl
                have lC := HRsC.out.lt
                go_wp2_with (at_builtin; refine wpList_append_int_at rfl _ _ _ rfl Try.underlying22 G (.slice a2 mm d2) (sellS zs L (top.take j)) rfl (HO2C.out.alloc _) WC.heap.size 1 F rfl ((Row.new' WC [_] _ rfl).cell 0 rfl) (by rw [HLS.out]; omega) (by simp; omega) ?_; intro v' WD ho2 hg2 hor2; obtain ⟨a3, d3, rfl, ho2⟩ := ho2.form (mm + 1) (by rw [List.length_append, HLS.out]; rfl); have hCD : Ch (fun k => (Value.slice a2 mm d2).ownBlock = some k) WC WD := ((Ch.refl _ _).alloc _).trans (Ch.of_grown hg2 (fun k e => e)); have HRsD := Lib.hid (HRsC.out.ch hCD (fun hh => by have := (HO2C.out.lt hh).1; omega)); have c3D := HRsD.out.cell 3 rfl; have f3D := HRsD.out.frozen 3; have lD := HRsD.out.lt)
                have HO1D := Lib.hid (HO1C.out.ch hCD (fun g hg hh => HSB2.out g hg hh))
                have HTD := Lib.hid (HTC.out.ch hCD (fun g hg hh => by have := (HO2C.out.lt hh).1; have e2 : gT = g := (by simpa [Value.ownBlock] using hg); omega))
                have HBWD := Lib.hid (hCD.below HBWC.out (fun k hk => by have := (HO2C.out.lt hk).1; omega) (by omega))
                have HSD : Hid (∀ g, (Value.slice (some ⟨g1, 0, none⟩) (mm + 1) cp1).ownBlock = some g → (Value.slice a3 (mm + 1) d3).ownBlock ≠ some g) := fun g hg h2 => by
                  rcases hor2 with h | h
                  · rw [h] at h2; exact HSB2.out g hg h2
                  · rw [h] at h2
                    have := (HO1C.out.lt hg).2
                    simp at h2; omega
                have HO2D := Lib.hid ho2
                have hGD : G ≤ WD.heap.size := Nat.le_trans hGC hCD.size
                clear ho2 hg2 hor2 hCD HRsC HO1C HO2C HTC HBWC HSB2 hGC c3C lC
                go_wp2_with fail
                go_roundw
                case rel =>
                  have hSE : ∀ u : Value, Ch (fun k => k = Bs) WD (WD.setCell ⟨Bs, 3, none⟩ u) := fun u => Ch.setCell (o := fun k => k = Bs) (p := ⟨Bs, 3, none⟩) (Ch.refl _ _) rfl _
                  refine ⟨j + 1, F - F, mm + 1, some ⟨g1, 0, none⟩, cp1, a3, d3, by omega, by go_num, (by first | rfl | exact congrArg (Value.int .i64) (by omega)), by omega, by omega, HLF1.out, HRsD.out.putAt 3 _ rfl, ?_, ?_, HSD.out, ?_, ?_, ?_⟩
                  · show OwnV _ _ _ _
                    rw [HSC1.out]
                    exact HO1D.out.ch (hSE _) (fun g hg e => by have := (HO1D.out.lt hg).1; omega)
                  · show OwnV _ _ _ _
                    rw [HSS1.out]
                    exact HO2D.out.ch (hSE _) (fun g hg e => by have := (HO2D.out.lt hg).1; omega)
                  · exact HTD.out.ch (hSE _) (fun g hg e => by have e2 : gT = g := (by simpa [Value.ownBlock] using hg); omega)
                  · exact (hSE _).below HBWD.out (fun k hk => by omega) (by omega)
                  · exact Nat.le_trans hGD (hSE _).size
                case measure => simp [intOf]; omega
              · have HSS1 : Hid (sellS zs L (top.take (j + 1)) = sellS zs L (top.take j) ++ [z]) := by show _ = _; rw [hs2, show min F z = z by omega]
                have HLF1 : Hid (lfI zs L (top.take (j + 1)) = F - z) := by show _ = _; rw [hs3, show min F z = z by omega]
                clear hs2 hs3
                go_wp2_with fail
                go_quiet (fail)
                generalize hwq : wr.drewN _ = wq
                have hbq : Below wr.heap.size wr wq := by rw [← hwq]; (repeat' (first | (with_reducible exact Below.refl _ _) | (with_reducible assumption) | (with_reducible exact Bw.out (by with_reducible assumption)) | (with_reducible refine bw_alloc ?_ _) | (with_reducible refine bw_step ?_ (by with_reducible assumption)) | (with_reducible refine Below.alloc ?_ ?_ _) | (with_reducible refine Below.drew ?_) | (with_reducible refine below_drewN ?_ _) | (with_reducible refine Below.setCell ?_ ?_ _) | (with_reducible refine below_step ?_ (by with_reducible assumption) ?_) | (with_reducible exact Nat.le_refl _) | omega | (simp; omega) | (simp; done)))
                clear hwq
                have HRs := Lib.hid (hRs.out.step hbq)
                have HO1 := Lib.hid (hO1.out.step hbq)
                have HO2 := Lib.hid (hO2.out.step hbq)
                have HT := Lib.hid (hT.out.step hbq)
                have HBW := Lib.hid (hBW.out.trans (hbq.mono (by have := hBW.out.size; omega)))
                have hGq : G ≤ wq.heap.size := Nat.le_trans hG hbq.size
                clear hbq hRs hO1 hO2 hT hBW
                go_wp2_with fail
                have ct : wq.cell? ⟨gT, j, none⟩ = some (.int .i64 (xn : Int)) := by
                  have := HT.out.sl
                  obtain ⟨a', c', e', h1, _, _⟩ := this
                  cases e'
                  obtain ⟨b'', o'', e'', hc⟩ := h1.2 j (by rw [HTL.out]; exact hlt)
                  cases e''
                  rw [HXN.out, Nat.zero_add] at hc
                  exact hc
                have c2 := HRs.out.cell 2 rfl
                have c3 := HRs.out.cell 3 rfl
                have f2 := HRs.out.frozen 2
                have f3 := HRs.out.frozen 3
                have lq := HRs.out.lt
                have HKS : Hid (∀ w', Ch (fun k => (Value.slice a1 mm d1).ownBlock = some k) wq w' → w'.cell? ⟨Bs, 2, none⟩ = some (.slice a1 mm d1) ∧ w'.cell? ⟨gT, j, none⟩ = some (.int .i64 (xn : Int))) := fun w' h => by
                  have hb1 : ∀ g, (Value.slice a1 mm d1).ownBlock = some g → G ≤ g := fun g hg => (HO1.out.lt hg).1
                  refine ⟨(HRs.out.ch h (fun hh => by have := hb1 _ hh; omega)).cell 2 rfl, ?_⟩
                  have e := h.2.2.2.2 gT (World.block_lt_of_cell? _ _ ct) (fun hh => by have := hb1 _ hh; omega)
                  rw [← ct]; simp only [World.cell?, e]
                refine AnyJ.beginP (fun w' : World => w'.cell? ⟨Bs, 2, none⟩ = some (.slice a1 mm d1) ∧ w'.cell? ⟨gT, j, none⟩ = some (.int .i64 (xn : Int))) (fun q => decide (q ≤ 7)) (by kernel_rfl) (HKS.out _ (Ch.drew (Ch.refl _ _))) (fun hS => ?_)
                refine AnyJ.takeD (i := 0) (d := some 107) (v := ?_) rfl (by kernel_rfl) (by kernel_rfl) (by kernel_rfl) (by kernel_rfl) (by kernel_rfl) (fun _ _ _ h => h) (Or.inl ⟨by kernel_rfl, ?_⟩) hS ?_
                rotate_left
                · intro w' hS
                  clear hS
                  go_simp
                  try with_reducible rfl
                refine AnyJ.takeD (i := 1) (d := some 108) (v := ?_) rfl (by kernel_rfl) (by kernel_rfl) (by kernel_rfl) (by kernel_rfl) (by kernel_rfl) (fun _ _ _ h => h) (Or.inl ⟨by kernel_rfl, ?_⟩) hS ?_
                rotate_left
                · intro w' hS
                  obtain ⟨sF0, sF1⟩ := hS
                  go_simp
                  try with_reducible rfl
                refine AnyJ.takeD (i := 2) (d := some 109) (v := ?_) rfl (by kernel_rfl) (by kernel_rfl) (by kernel_rfl) (by kernel_rfl) (by kernel_rfl) (fun _ _ _ h => h) (Or.inl ⟨by kernel_rfl, ?_⟩) hS ?_
                rotate_left
                · intro w' hS
                  clear hS
                  go_simp
                  try with_reducible rfl
                refine AnyJ.takeD (i := 3) (d := some 110) (v := ?_) rfl (by kernel_rfl) (by kernel_rfl) (by kernel_rfl) (by kernel_rfl) (by kernel_rfl) (fun _ _ _ h => h) (Or.inl ⟨by kernel_rfl, ?_⟩) hS ?_
                rotate_left
                · intro w' hS
                  clear hS
                  go_simp
                  try with_reducible rfl
                refine AnyJ.takeD (i := 4) (d := some 111) (v := ?_) rfl (by kernel_rfl) (by kernel_rfl) (by kernel_rfl) (by kernel_rfl) (by kernel_rfl) (fun _ _ _ h => h) (Or.inl ⟨by kernel_rfl, ?_⟩) hS ?_
                rotate_left
                · intro w' hS
                  clear hS
                  go_simp
                  try with_reducible rfl
                refine AnyJ.takeD (i := 5) (d := some 112) (v := ?_) rfl (by kernel_rfl) (by kernel_rfl) (by kernel_rfl) (by kernel_rfl) (by kernel_rfl) (fun _ _ _ h => h) (Or.inl ⟨by kernel_rfl, ?_⟩) hS ?_
                rotate_left
                · intro w' hS
                  obtain ⟨sF0, sF1⟩ := hS
                  go_simp
                  try with_reducible rfl
                clear hS
                refine AnyJ.one (i := 6) (by kernel_rfl) rfl (fun Kz hKz => ?_)
                go_simp
                have hCA : Ch (fun k => (Value.slice a1 mm d1).ownBlock = some k) wq (wq.alloc (.cells #[.int .i64 (xn : Int)] 3)) := (Ch.refl _ _).alloc _
                generalize hwA : wq.alloc (.cells #[.int .i64 (xn : Int)] 3) = wA at hCA
                have RA : Row wA wq.heap.size [.int .i64 (xn : Int)] := by rw [← hwA]; exact Row.new' _ [_] _ rfl
                have HOA := Lib.hid (show OwnV wA G (.slice a1 mm d1) (sellC zs L (top.take j)) by rw [← hwA]; exact HO1.out.alloc _)
                have hsA : wA.heap.size = wq.heap.size + 1 := by rw [← hwA]; simp
                refine hKz _ _ (fun _ => HKS.out _ hCA) ?_
                clear hKz Kz
                refine AnyJ.one (i := 7) (by kernel_rfl) rfl (fun Kz hKz => ?_)
                refine step_app_int rfl (.tmp 108) (.tmp 113) 22 rfl Try.underlying22 G (.slice a1 mm d1) (sellC zs L (top.take j)) (by simp [Act.eval, Act.put]) HOA.out wq.heap.size 1 (xn : Int) (by simp [Act.eval, Act.put]) (RA.cell 0 rfl) (by rw [HLC.out]; omega) (by show G ≤ wA.heap.size; omega) ?_
                intro g1 cp1 WB ho1 hg1 hor1
                have hCB : Ch (fun k => (Value.slice a1 mm d1).ownBlock = some k) wq WB := hCA.drew.trans (Ch.of_grown hg1 (fun k e => e))
                refine hKz _ _ (fun _ => HKS.out _ hCB) ?_
                clear hKz Kz
                rw [HLC.out] at ho1 ⊢
                have hG1 : ∀ g, (Value.slice a1 mm d1).ownBlock = some g → G ≤ g := fun g hg => (HO1.out.lt hg).1
                have HRsB := Lib.hid (HRs.out.ch hCB (fun hh => by have := hG1 _ hh; omega))
                have HO2B := Lib.hid (HO2.out.ch hCB (fun g hg hh => hSep.out g hh hg))
                have HTB := Lib.hid (HT.out.ch hCB (fun g hg hh => by have := hG1 _ hh; have e : gT = g := (by simpa [Value.ownBlock] using hg); omega))
                have HBWB := Lib.hid (hCB.below HBW.out (fun k hk => by have := hG1 _ hk; omega) (by omega))
                have HSB2 : Hid (∀ g, (Value.slice (some ⟨g1, 0, none⟩) (mm + 1) cp1).ownBlock = some g → (Value.slice a2 mm d2).ownBlock ≠ some g) := fun g hg h2 => by
                  have e : g1 = g := by simpa [Value.ownBlock] using hg
                  subst e
                  rcases hor1 with h | h
                  · exact hSep.out _ h h2
                  · have h' : g1 = wA.heap.size := h
                    have := (HO2.out.lt h2).2; omega
                have HO1B := Lib.hid ho1
                have hGB : G ≤ WB.heap.size := Nat.le_trans hGq hCB.size
                clear ho1 hg1 hor1 hCB hCA HKS hG1 HRs HO1 HO2 HT HBW hSep c2 c3 f2 f3 lq ct RA HOA hsA hwA hGq
                refine AnyJ.takeY (i := 8) (v := ?_) rfl (by kernel_rfl) (by kernel_rfl) (by kernel_rfl) rfl (fun _ _ _ h => h) (Or.inl ⟨by rfl, ?_⟩) ?_
                rotate_left
                · intro w'
                  go_simp
                  try with_reducible rfl
                have c2B := HRsB.out.cell 2 rfl
                have f2B := HRsB.out.frozen 2
                have lB := HRsB.out.lt
                refine AnyJ.one (i := 9) (by kernel_rfl) rfl (fun Kz hKz => ?_)
                go_simp
                obtain ⟨WC, hWC⟩ : ∃ wd, WB.setCell ⟨Bs, 2, none⟩ (.slice (some ⟨g1, 0, none⟩) (mm + 1) cp1) = wd := ⟨_, rfl⟩
                rw [hWC]
                refine hKz _ _ (fun h => absurd h (by decide)) ?_
                clear hKz Kz
                refine AnyJ.done (by kernel_rfl) ?_ _
                try simp only [Act.put, List.setIfInBounds_toArray, List.set_cons_zero, List.set_cons_succ]
                have hSC : Ch (fun k => k = Bs) WB WC := by rw [← hWC]; exact Ch.setCell (o := fun k => k = Bs) (p := ⟨Bs, 2, none⟩) (Ch.refl _ _) rfl _
                have HRsC : Hid (Row WC Bs [.int .i64 i, .int .i64 (most + 1), .slice (some ⟨g1, 0, none⟩) (mm + 1) cp1, .slice a2 mm d2]) := by show Row _ _ _; rw [← hWC]; exact HRsB.out.putAt 2 _ rfl
                have HO1C := Lib.hid (HO1B.out.ch hSC (fun g hg e => by have := (HO1B.out.lt hg).1; omega))
                have HO2C := Lib.hid (HO2B.out.ch hSC (fun g hg e => by have := (HO2B.out.lt hg).1; omega))
                have HTC := Lib.hid (HTB.out.ch hSC (fun g hg e => by have e2 : gT = g := (by simpa [Value.ownBlock] using hg); omega))
                have HBWC := Lib.hid (hSC.below HBWB.out (fun k hk => by omega) (by omega))
                have hGC : G ≤ WC.heap.size := Nat.le_trans hGB hSC.size
                clear hWC hSC HRsB HO1B HO2B HTB HBWB hGB c2B f2B lB
                have c3C := HRsC.out.cell 3 rfl
                have lC := HRsC.out.lt
                go_wp2_with (at_builtin; refine wpList_append_int_at rfl _ _ _ rfl Try.underlying22 G (.slice a2 mm d2) (sellS zs L (top.take j)) rfl (HO2C.out.alloc _) WC.heap.size 1 z rfl ((Row.new' WC [_] _ rfl).cell 0 rfl) (by rw [HLS.out]; omega) (by simp; omega) ?_; intro v' WD ho2 hg2 hor2; obtain ⟨a3, d3, rfl, ho2⟩ := ho2.form (mm + 1) (by rw [List.length_append, HLS.out]; rfl); have hCD : Ch (fun k => (Value.slice a2 mm d2).ownBlock = some k) WC WD := ((Ch.refl _ _).alloc _).trans (Ch.of_grown hg2 (fun k e => e)); have HRsD := Lib.hid (HRsC.out.ch hCD (fun hh => by have := (HO2C.out.lt hh).1; omega)); have c3D := HRsD.out.cell 3 rfl; have f3D := HRsD.out.frozen 3; have lD := HRsD.out.lt)
                have HO1D := Lib.hid (HO1C.out.ch hCD (fun g hg hh => HSB2.out g hg hh))
                have HTD := Lib.hid (HTC.out.ch hCD (fun g hg hh => by have := (HO2C.out.lt hh).1; have e2 : gT = g := (by simpa [Value.ownBlock] using hg); omega))
                have HBWD := Lib.hid (hCD.below HBWC.out (fun k hk => by have := (HO2C.out.lt hk).1; omega) (by omega))
                have HSD : Hid (∀ g, (Value.slice (some ⟨g1, 0, none⟩) (mm + 1) cp1).ownBlock = some g → (Value.slice a3 (mm + 1) d3).ownBlock ≠ some g) := fun g hg h2 => by
                  rcases hor2 with h | h
                  · rw [h] at h2; exact HSB2.out g hg h2
                  · rw [h] at h2
                    have := (HO1C.out.lt hg).2
                    simp at h2; omega
                have HO2D := Lib.hid ho2
                have hGD : G ≤ WD.heap.size := Nat.le_trans hGC hCD.size
                clear ho2 hg2 hor2 hCD HRsC HO1C HO2C HTC HBWC HSB2 hGC c3C lC
                go_wp2_with fail
                go_roundw
                case rel =>
                  have hSE : ∀ u : Value, Ch (fun k => k = Bs) WD (WD.setCell ⟨Bs, 3, none⟩ u) := fun u => Ch.setCell (o := fun k => k = Bs) (p := ⟨Bs, 3, none⟩) (Ch.refl _ _) rfl _
                  refine ⟨j + 1, F - z, mm + 1, some ⟨g1, 0, none⟩, cp1, a3, d3, by omega, by go_num, (by first | rfl | exact congrArg (Value.int .i64) (by omega)), by omega, by omega, HLF1.out, HRsD.out.putAt 3 _ rfl, ?_, ?_, HSD.out, ?_, ?_, ?_⟩
                  · show OwnV _ _ _ _
                    rw [HSC1.out]
                    exact HO1D.out.ch (hSE _) (fun g hg e => by have := (HO1D.out.lt hg).1; omega)
                  · show OwnV _ _ _ _
                    rw [HSS1.out]
                    exact HO2D.out.ch (hSE _) (fun g hg e => by have := (HO2D.out.lt hg).1; omega)
                  · exact HTD.out.ch (hSE _) (fun g hg e => by have e2 : gT = g := (by simpa [Value.ownBlock] using hg); omega)
                  · exact (hSE _).below HBWD.out (fun k hk => by omega) (by omega)
                  · exact Nat.le_trans hGD (hSE _).size
                case measure => simp [intOf]; omega
          · obtain rfl : m = j := by omega
            have htk : top.take m = top := List.take_of_length_le (by rw [HTL.out]; exact Nat.le_refl _)
            rw [htk] at hO1 hO2
            have HRr := HR5.out.below hBW.out hwB
            have d0 := HRr.cell 0 rfl
            have d1' := HRr.cell 1 rfl
            have d2' := HRr.cell 2 rfl
            have d3' := HRr.cell 3 rfl
            have y0 := HRr.frozen 0
            have y1 := HRr.frozen 1
            have y2 := HRr.frozen 2
            have y3 := HRr.frozen 3
            have dl := HRr.lt
            have q0 := hRs.out.cell 0 rfl
            have q1 := hRs.out.cell 1 rfl
            have q2 := hRs.out.cell 2 rfl
            have q3 := hRs.out.cell 3 rfl
            have ql := hRs.out.lt
            have RZ := Row.set4' ⟨_, _, _, _, HRr⟩ (.int .i64 i) (.int .i64 (most + 1)) (.slice a1 mm d1) (.slice a2 mm d2)
            have hZ : Ch (fun k => k = w.heap.size) wr ((((wr.setCell ⟨w.heap.size, 0, none⟩ (.int .i64 i)).setCell ⟨w.heap.size, 1, none⟩ (.int .i64 (most + 1))).setCell ⟨w.heap.size, 2, none⟩ (.slice a1 mm d1)).setCell ⟨w.heap.size, 3, none⟩ (.slice a2 mm d2)) :=
              Ch.setCell (o := fun k => k = w.heap.size) (p := ⟨w.heap.size, 3, none⟩) (Ch.setCell (o := fun k => k = w.heap.size) (p := ⟨w.heap.size, 2, none⟩) (Ch.setCell (o := fun k => k = w.heap.size) (p := ⟨w.heap.size, 1, none⟩) (Ch.setCell (o := fun k => k = w.heap.size) (p := ⟨w.heap.size, 0, none⟩) (Ch.refl _ _) rfl _) rfl _) rfl _) rfl _
            have V1 := Lib.hid (hO1.out.ch hZ (fun g hg e => by have := (hO1.out.lt hg).1; omega)).sl
            have V2 := Lib.hid (hO2.out.ch hZ (fun g hg e => by have := (hO2.out.lt hg).1; omega)).sl
            have VB := Lib.hid (hZ.below HBww.out (fun k hk => by omega) HBww.out.size)
            have z0 := RZ.cell 0 rfl
            have z1 := RZ.cell 1 rfl
            have z2 := RZ.cell 2 rfl
            have z3 := RZ.cell 3 rfl
            have zl := RZ.lt
            clear hZ hlt htk
            go_wp2_with fail
            refine bodyPost_ret (v := .tuple #[.agg #[.int .i64 i, .int .i64 (most + 1), .slice a1 mm d1, .slice a2 mm d2], .bool true, .int .i64 0]) (by simp [results, Try.results40, go_sem, z0, z1, z2, z3, zl, d0, d1', d2', d3', dl, q0, q1, q2, q3, ql]) rfl ?_
            refine ⟨_, _, by rw [hW.out], by rw [hL.out, HTOP.out]; exact V1.out, by rw [hL.out, HTOP.out]; exact V2.out, VB.out⟩

end Go.Proofs.Ytijbhdpaikajkaa
