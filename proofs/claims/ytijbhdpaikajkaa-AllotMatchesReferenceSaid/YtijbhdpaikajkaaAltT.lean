/-
  The walk of the reference's Shares.
-/
import Derived.Test.YtijbhdpaikajkaaAltR
namespace Go.Proofs.Ytijbhdpaikajkaa
set_option linter.unusedSimpArgs false
set_option linter.unusedVariables false
open Go.RowKit

theorem shIn_bd {zs : List Int} (h : shIn zs) : ∀ z ∈ zs, -1000000 ≤ z ∧ z ≤ 1000000 := fun z hz => by have := h z hz; omega
theorem shIn_bd64 {zs : List Int} (h : shIn zs) : ∀ z ∈ zs, -9223372036854775808 ≤ z ∧ z ≤ 9223372036854775807 := fun z hz => by have := h z hz; omega
theorem divP_shIn {zs : List Int} (h0 : shIn zs) {h : Int} (hh : 0 ≤ h) (k : Nat) : shIn (divP zs h k) := fun z hz => by
  obtain ⟨i, hi, rfl⟩ := List.mem_map.1 hz
  have := h0 _ (getD_memA (List.mem_range.1 hi))
  split <;> omega
/-- A slice of the call's own, with its length. -/
theorem OwnV.slcN {w : World} {base n cap : Nat} {ad : Option Addr} {zs : List Int} (h : OwnV w base (.slice ad n cap) zs) (hn : zs.length = n) : SlC w ad n cap zs := ⟨hn, h.sl⟩

set_option maxRecDepth 100000 in
set_option maxHeartbeats 6400000 in
/-- Shares where they are divided. -/
theorem rShares_ok (r s most : Int) (cN : Nat) (a : Option Addr) (n cap : Nat) (zs : List Int) (w : World) (K : SlC w a n cap zs) (hok : okA r s zs cN most = true) (hb0 : 0 ≤ r + most - s) (Z : List Int) (hZ : divA zs cN (r + most - s) = Z) :
    Calls Try.prog 15 #[.int .i64 r, .int .i64 s, .slice a n cap, .int .i64 cN, .int .i64 most] w fun e w' => ∃ ad cp, e = .returned (.tuple #[.slice ad n cp, .int .i64 0]) ∧ OwnV w' w.heap.size (.slice ad n cp) Z ∧ Below w.heap.size w w' := by
  obtain ⟨p0, p1, p2, p3, ⟨p4, p5⟩, ⟨p6, p7⟩, ⟨p8, p9⟩, p10, p11⟩ := okA_parts hok
  have hc30 : cN ≤ 30 := by omega
  have hn := K.len
  have hn30 : n ≤ 30 := by have := K.1; omega
  obtain ⟨h, hh⟩ : ∃ h, lvl zs cN (r + most - s) = h := ⟨_, rfl⟩
  obtain ⟨l1, l2, l3⟩ := lvl_spec zs cN (r + most - s)
  rw [hh] at l1 l2 l3
  obtain ⟨b, hb⟩ : ∃ b, r + most - s = b := ⟨_, rfl⟩
  have hbb : 0 ≤ b ∧ b ≤ 1400 := by omega
  have H1 := Lib.hid p0
  have H2 : Hid (inB (cN : Int) 30 = true) := inB_true p8 p9
  have H3 : Hid (inB most 1000 = true) := inB_true p10 p11
  have HSB := Lib.hid p3
  have HIN := Lib.hid p2
  have HL := Lib.hid K.1
  have HK0 := Lib.hid K
  rw [hb] at hZ hb0 l2 l3 hh
  have HDV : Hid (divA zs cN b = divP zs h (fillF zs cN b h n 0)) := by show _ = _; unfold divA; rw [hh, HL.out]
  have HZ := Lib.hid hZ
  have HL2 := Lib.hid l2
  have HL3 := Lib.hid l3
  have HBE := Lib.hid hb
  have HLV := Lib.hid hh
  clear hok p0 p1 p2 p3 hZ l2 l3 hb hh
  go_enter Try.func15, Try.ntmps15
  go_wp2_with fail
  refine (R_night_any r s a n cap zs _ hn (K.step (by (repeat' (first | (with_reducible exact Below.refl _ _) | (with_reducible assumption) | (with_reducible exact Bw.out (by with_reducible assumption)) | (with_reducible refine bw_alloc ?_ _) | (with_reducible refine bw_step ?_ (by with_reducible assumption)) | (with_reducible refine Below.alloc ?_ ?_ _) | (with_reducible refine Below.drew ?_) | (with_reducible refine below_drewN ?_ _) | (with_reducible refine Below.setCell ?_ ?_ _) | (with_reducible refine below_step ?_ (by with_reducible assumption) ?_) | (with_reducible exact Nat.le_refl _) | omega | (simp; omega) | (simp; done))))).sl).mono ?_
  rintro e w1 ⟨rfl, hb1⟩
  have R_n_1 : Row w1 (w.heap.size) [.int .i64 r, .int .i64 s, .slice a n cap] := by (repeat' (first | (with_reducible assumption) | (with_reducible refine Row.new' _ _ _ (by first | rfl | (simp; done) | omega)) | (with_reducible refine Row.alloc ?_ _) | (with_reducible refine Row.drew ?_) | (with_reducible refine Row.drewN ?_ _) | (with_reducible refine Row.step ?_ (by with_reducible assumption)) | (with_reducible refine Row.set2' ?_ _ _; first | exact ⟨_, _, by with_reducible assumption⟩ | exact ⟨_, _, Row.alloc (by with_reducible assumption) _⟩ | exact ⟨_, _, Row.alloc (Row.alloc (by with_reducible assumption) _) _⟩) | (with_reducible refine Row.other ?_ (by first | omega | (simp; done) | (simp; omega)) _)))
  have c_n_0_1 := R_n_1.cell 0 rfl
  have c_n_1_1 := R_n_1.cell 1 rfl
  have c_n_2_1 := R_n_1.cell 2 rfl
  have l_n_1 := R_n_1.lt
  replace K := K.step (show Below w.heap.size w w1 by (repeat' (first | (with_reducible exact Below.refl _ _) | (with_reducible assumption) | (with_reducible exact Bw.out (by with_reducible assumption)) | (with_reducible refine bw_alloc ?_ _) | (with_reducible refine bw_step ?_ (by with_reducible assumption)) | (with_reducible refine Below.alloc ?_ ?_ _) | (with_reducible refine Below.drew ?_) | (with_reducible refine below_drewN ?_ _) | (with_reducible refine Below.setCell ?_ ?_ _) | (with_reducible refine below_step ?_ (by with_reducible assumption) ?_) | (with_reducible exact Nat.le_refl _) | omega | (simp; omega) | (simp; done))))
  have HB1 : Below w.heap.size w w1 := by (repeat' (first | (with_reducible exact Below.refl _ _) | (with_reducible assumption) | (with_reducible exact Bw.out (by with_reducible assumption)) | (with_reducible refine bw_alloc ?_ _) | (with_reducible refine bw_step ?_ (by with_reducible assumption)) | (with_reducible refine Below.alloc ?_ ?_ _) | (with_reducible refine Below.drew ?_) | (with_reducible refine below_drewN ?_ _) | (with_reducible refine Below.setCell ?_ ?_ _) | (with_reducible refine below_step ?_ (by with_reducible assumption) ?_) | (with_reducible exact Nat.le_refl _) | omega | (simp; omega) | (simp; done)))
  rw [H1.out]
  go_wp2_with fail
  refine (R_Cut_any _ _).mono ?_
  rintro e w' ⟨rfl, rfl⟩
  rw [H2.out]
  go_wp2_with fail
  refine (R24_Promise_any _ _).mono ?_
  rintro e w' ⟨rfl, rfl⟩
  rw [H3.out]
  have HB1' := Lib.hid HB1
  clear R_n_1 c_n_0_1 c_n_1_1 c_n_2_1 l_n_1 hb1 HB1 K
  have hnb : ¬ (b < 0) := by omega
  go_upto_region 5 with fail
  rw [HBE.out]
  go_wp2_with fail
  go_loopw [14] (fun v wr => ∃ j : Nat, j ≤ h ∧ v = .int .i64 j ∧ Hid (Below w1.heap.size w1 wr)) (fun v _ => 400 - (intOf v).toNat)
  case atStart => exact ⟨0, Nat.zero_le _, rfl, Below.refl _ _⟩
  case round =>
    obtain ⟨j, hj, rfl, hB⟩ := hrel
    have HBw : Hid (Below w.heap.size w wr) := HB1'.out.trans (hB.out.mono HB1'.out.size)
    by_cases h400 : j < 400
    · go_wp2_with fail
      refine (rlevel_any a n cap zs ((j : Int) + 1) _ (by omega) (HK0.out.step HBw.out).sl (shIn_bd64 HIN.out)).mono ?_
      rintro e w2 ⟨v2, rfl, HO2, hb2⟩
      obtain ⟨ad2, cp2, rfl, HO2'⟩ := HO2.form n (by rw [capL_length]; exact HL.out)
      have K2 := HO2'.slcN (by rw [capL_length]; exact HL.out)
      have HB2 : Hid (Below w.heap.size w w2) := HBw.out.trans (hb2.mono HBw.out.size)
      have HB12 : Hid (Below w1.heap.size w1 w2) := hB.out.trans (hb2.mono hB.out.size)
      clear HO2 HO2' hb2
      go_wp2_with fail
      refine (rkeeps_any (capL zs ((j : Int) + 1)) cN b ad2 n cp2 _ K2 (sharesB_cap HSB.out (by omega)) hc30).mono ?_
      rintro e w3 ⟨rfl, hb3⟩
      have HB3 : Hid (Below w.heap.size w w3) := HB2.out.trans (hb3.mono HB2.out.size)
      have HB13 : Hid (Below w1.heap.size w1 w3) := HB12.out.trans (hb3.mono HB12.out.size)
      clear hb3 K2
      obtain ⟨p, hp⟩ : ∃ p, decide (topS (capL zs ((j : Int) + 1)) cN ≤ b) = p := ⟨_, rfl⟩
      rw [hp]
      have HPP := Lib.hid hp
      clear hp
      cases p with
      | true =>
        have hjh : j < h := by
          rcases Nat.lt_or_ge j h with g | g
          · exact g
          · exfalso
            obtain rfl : h = j := by omega
            have g1 := HL3.out h400
            have g2 := HPP.out
            simp at g2
            omega
        go_wp2_with fail
        go_roundw
        case rel => exact ⟨j + 1, by omega, by go_num, HB13.out⟩
        case measure => simp [intOf]; omega
      | false =>
        obtain rfl : h = j := by
          rcases Nat.lt_or_ge j h with g | g
          · exfalso
            have g1 := HL2.out j g
            have g2 := HPP.out
            simp at g2
            omega
          · omega
        clear HPP HBw HB2 HB12 HB13 hB hj
        go_wp2_with fail
        refine (rlevel_any a n cap zs h _ (by omega) (HK0.out.step HB3.out).sl (shIn_bd64 HIN.out)).mono ?_
        rintro e w4 ⟨v4, rfl, HO4, hb4⟩
        obtain ⟨ad4, cp4, rfl, HO4'⟩ := HO4.form n (by rw [capL_length]; exact HL.out)
        have HO5' : Hid (OwnV w4 w.heap.size (.slice ad4 n cp4) (divP zs h 0)) := by show OwnV _ _ _ _; rw [divP_zero]; exact HO4'.low HB3.out.size
        have HB4 : Hid (Below w.heap.size w w4) := HB3.out.trans (hb4.mono HB3.out.size)
        clear HO4 HO4' hb4
        go_wp2_with fail
        go_loopw [15, 16] (fun v i wr => ∃ (k : Nat) (ad : Option Addr) (cp : Nat), k ≤ n ∧ i = .int .i64 k ∧ v = .slice ad n cp ∧ Hid (OwnV wr w.heap.size (.slice ad n cp) (divP zs h k)) ∧ Hid (fillF zs cN b h (n - k) k = fillF zs cN b h n 0) ∧ Hid (Below w.heap.size w wr)) (fun _ i _ => n - (intOf i).toNat)
        case atStart => exact ⟨0, ad4, cp4, Nat.zero_le _, rfl, rfl, HO5'.out, rfl, HB4.out⟩
        case round =>
          obtain ⟨k, ad, cp, hk, rfl, rfl, hO, hF, hB⟩ := hrel
          by_cases hlt : k < n
          · obtain ⟨b0, off, z, hpa, hbl, cz, gz, _, gm⟩ := (HK0.out.sl.below hB.out).get hlt
            subst hpa
            obtain ⟨z0, z1⟩ := HIN.out z gm.out
            have hkl : k < zs.length := by rw [HL.out]; exact hlt
            have HFS : Hid (fillF zs cN b h (n - k) k = if zs.getD k 0 ≤ h then fillF zs cN b h (n - (k + 1)) (k + 1) else if topS (divP zs h (k + 1)) cN ≤ b then fillF zs cN b h (n - (k + 1)) (k + 1) else k) := by
              show _ = _
              rw [show n - k = (n - (k + 1)) + 1 by omega]; rfl
            have GZ := Lib.hid gz.out
            have i1 : (0 : Int) ≤ (k : Int) := by omega
            have i2 : (k : Int) < (n : Int) := by omega
            have HKL := Lib.hid hkl
            clear gz gm hkl
            by_cases hzh : z ≤ (h : Int)
            · have HF2 : Hid (fillF zs cN b h (n - (k + 1)) (k + 1) = fillF zs cN b h n 0) := by
                show _ = _
                rw [← hF.out, HFS.out, GZ.out, if_pos hzh]
              have HO3 : Hid (OwnV wr w.heap.size (.slice ad n cp) (divP zs h (k + 1))) := by
                show OwnV _ _ _ _
                rw [divP_skip HKL.out (by rw [GZ.out]; exact hzh)]; exact hO.out
              go_wp2_with fail
              go_roundw
              case rel => exact ⟨k + 1, ad, cp, by omega, by go_num, rfl, HO3.out, HF2.out, hB.out⟩
              case measure => simp [intOf]; omega
            · have hzh2 : (h : Int) < zs.getD k 0 := by rw [GZ.out]; omega
              obtain ⟨m1, m2⟩ := divP_more HKL.out hzh2
              have HDV2 : Hid ((divP zs h k).set k ((divP zs h k).getD k 0 + 1) = divP zs h (k + 1)) := by show _ = _; rw [m1, m2]
              have HSD := Lib.hid (sharesB_divP HSB.out (h := h) (by omega) (k + 1))
              have HID := Lib.hid (divP_shIn HIN.out (h := h) (by omega) k)
              clear m1 m2 hzh2
              go_wp2_with fail
              refine (rwith_any ad n cp (divP zs h k) k _ (by omega) hlt (hO.out.slcN (by rw [divP_length]; exact HL.out)).sl (shIn_bd HID.out)).mono ?_
              rintro e w5 ⟨v5, rfl, HO6, hb5⟩
              rw [HDV2.out] at HO6
              obtain ⟨ad5, cp5, rfl, HO6'⟩ := HO6.form n (by rw [divP_length]; exact HL.out)
              have HK6 : Hid (OwnV w5 w.heap.size (.slice ad5 n cp5) (divP zs h (k + 1))) := HO6'.low hB.out.size
              have HB5 : Hid (Below w.heap.size w w5) := hB.out.trans (hb5.mono hB.out.size)
              have HKo := Lib.hid (hO.out.step hb5)
              clear HO6 HO6' hb5
              go_wp2_with fail
              refine (rkeeps_any (divP zs h (k + 1)) cN b ad5 n cp5 _ (HK6.out.slcN (by rw [divP_length]; exact HL.out)) HSD.out hc30).mono ?_
              rintro e w6 ⟨rfl, hb6⟩
              have HK7 := Lib.hid (HK6.out.step hb6)
              have HKo7 := Lib.hid (HKo.out.step hb6)
              have HB6 : Hid (Below w.heap.size w w6) := HB5.out.trans (hb6.mono HB5.out.size)
              clear hb6
              obtain ⟨p, hp⟩ : ∃ p, decide (topS (divP zs h (k + 1)) cN ≤ b) = p := ⟨_, rfl⟩
              rw [hp]
              have HPP := Lib.hid hp
              clear hp
              cases p with
              | true =>
                have HF2 : Hid (fillF zs cN b h (n - (k + 1)) (k + 1) = fillF zs cN b h n 0) := by
                  show _ = _
                  rw [← hF.out, HFS.out, GZ.out, if_neg (by omega), if_pos (by have := HPP.out; simpa using this)]
                go_wp2_with fail
                go_roundw
                case rel => exact ⟨k + 1, ad5, cp5, by omega, by go_num, rfl, HK7.out, HF2.out, HB6.out⟩
                case measure => simp [intOf]; omega
              | false =>
                have HV : Hid (Z = divP zs h k) := by
                  show _ = _
                  rw [← HZ.out, HDV.out, ← hF.out, HFS.out, GZ.out, if_neg (by omega), if_neg (by have := HPP.out; simpa using this)]
                go_wp2_with fail
                go_ret2
                exact ⟨ad, cp, rfl, by rw [HV.out]; exact HKo7.out, HB6.out⟩
          · obtain rfl : n = k := by omega
            have HV : Hid (Z = divP zs h n) := by
              show _ = _
              have h1 := hF.out
              rw [Nat.sub_self] at h1
              have h2 : n = fillF zs cN b h n 0 := h1
              rw [← HZ.out, HDV.out, ← h2]
            go_wp2_with fail
            go_ret2
            exact ⟨ad, cp, rfl, by rw [HV.out]; exact hO.out, hB.out⟩
    · obtain rfl : h = j := by omega
      clear hB hj
      go_wp2_with fail
      refine (rlevel_any a n cap zs h _ (by omega) (HK0.out.step HBw.out).sl (shIn_bd64 HIN.out)).mono ?_
      rintro e w4 ⟨v4, rfl, HO4, hb4⟩
      obtain ⟨ad4, cp4, rfl, HO4'⟩ := HO4.form n (by rw [capL_length]; exact HL.out)
      have HO5' : Hid (OwnV w4 w.heap.size (.slice ad4 n cp4) (divP zs h 0)) := by show OwnV _ _ _ _; rw [divP_zero]; exact HO4'.low HBw.out.size
      have HB4 : Hid (Below w.heap.size w w4) := HBw.out.trans (hb4.mono HBw.out.size)
      clear HO4 HO4' hb4
      go_wp2_with fail
      go_loopw [15, 16] (fun v i wr => ∃ (k : Nat) (ad : Option Addr) (cp : Nat), k ≤ n ∧ i = .int .i64 k ∧ v = .slice ad n cp ∧ Hid (OwnV wr w.heap.size (.slice ad n cp) (divP zs h k)) ∧ Hid (fillF zs cN b h (n - k) k = fillF zs cN b h n 0) ∧ Hid (Below w.heap.size w wr)) (fun _ i _ => n - (intOf i).toNat)
      case atStart => exact ⟨0, ad4, cp4, Nat.zero_le _, rfl, rfl, HO5'.out, rfl, HB4.out⟩
      case round =>
        obtain ⟨k, ad, cp, hk, rfl, rfl, hO, hF, hB⟩ := hrel
        by_cases hlt : k < n
        · obtain ⟨b0, off, z, hpa, hbl, cz, gz, _, gm⟩ := (HK0.out.sl.below hB.out).get hlt
          subst hpa
          obtain ⟨z0, z1⟩ := HIN.out z gm.out
          have hkl : k < zs.length := by rw [HL.out]; exact hlt
          have HFS : Hid (fillF zs cN b h (n - k) k = if zs.getD k 0 ≤ h then fillF zs cN b h (n - (k + 1)) (k + 1) else if topS (divP zs h (k + 1)) cN ≤ b then fillF zs cN b h (n - (k + 1)) (k + 1) else k) := by
            show _ = _
            rw [show n - k = (n - (k + 1)) + 1 by omega]; rfl
          have GZ := Lib.hid gz.out
          have i1 : (0 : Int) ≤ (k : Int) := by omega
          have i2 : (k : Int) < (n : Int) := by omega
          have HKL := Lib.hid hkl
          clear gz gm hkl
          by_cases hzh : z ≤ (h : Int)
          · have HF2 : Hid (fillF zs cN b h (n - (k + 1)) (k + 1) = fillF zs cN b h n 0) := by
              show _ = _
              rw [← hF.out, HFS.out, GZ.out, if_pos hzh]
            have HO3 : Hid (OwnV wr w.heap.size (.slice ad n cp) (divP zs h (k + 1))) := by
              show OwnV _ _ _ _
              rw [divP_skip HKL.out (by rw [GZ.out]; exact hzh)]; exact hO.out
            go_wp2_with fail
            go_roundw
            case rel => exact ⟨k + 1, ad, cp, by omega, by go_num, rfl, HO3.out, HF2.out, hB.out⟩
            case measure => simp [intOf]; omega
          · have hzh2 : (h : Int) < zs.getD k 0 := by rw [GZ.out]; omega
            obtain ⟨m1, m2⟩ := divP_more HKL.out hzh2
            have HDV2 : Hid ((divP zs h k).set k ((divP zs h k).getD k 0 + 1) = divP zs h (k + 1)) := by show _ = _; rw [m1, m2]
            have HSD := Lib.hid (sharesB_divP HSB.out (h := h) (by omega) (k + 1))
            have HID := Lib.hid (divP_shIn HIN.out (h := h) (by omega) k)
            clear m1 m2 hzh2
            go_wp2_with fail
            refine (rwith_any ad n cp (divP zs h k) k _ (by omega) hlt (hO.out.slcN (by rw [divP_length]; exact HL.out)).sl (shIn_bd HID.out)).mono ?_
            rintro e w5 ⟨v5, rfl, HO6, hb5⟩
            rw [HDV2.out] at HO6
            obtain ⟨ad5, cp5, rfl, HO6'⟩ := HO6.form n (by rw [divP_length]; exact HL.out)
            have HK6 : Hid (OwnV w5 w.heap.size (.slice ad5 n cp5) (divP zs h (k + 1))) := HO6'.low hB.out.size
            have HB5 : Hid (Below w.heap.size w w5) := hB.out.trans (hb5.mono hB.out.size)
            have HKo := Lib.hid (hO.out.step hb5)
            clear HO6 HO6' hb5
            go_wp2_with fail
            refine (rkeeps_any (divP zs h (k + 1)) cN b ad5 n cp5 _ (HK6.out.slcN (by rw [divP_length]; exact HL.out)) HSD.out hc30).mono ?_
            rintro e w6 ⟨rfl, hb6⟩
            have HK7 := Lib.hid (HK6.out.step hb6)
            have HKo7 := Lib.hid (HKo.out.step hb6)
            have HB6 : Hid (Below w.heap.size w w6) := HB5.out.trans (hb6.mono HB5.out.size)
            clear hb6
            obtain ⟨p, hp⟩ : ∃ p, decide (topS (divP zs h (k + 1)) cN ≤ b) = p := ⟨_, rfl⟩
            rw [hp]
            have HPP := Lib.hid hp
            clear hp
            cases p with
            | true =>
              have HF2 : Hid (fillF zs cN b h (n - (k + 1)) (k + 1) = fillF zs cN b h n 0) := by
                show _ = _
                rw [← hF.out, HFS.out, GZ.out, if_neg (by omega), if_pos (by have := HPP.out; simpa using this)]
              go_wp2_with fail
              go_roundw
              case rel => exact ⟨k + 1, ad5, cp5, by omega, by go_num, rfl, HK7.out, HF2.out, HB6.out⟩
              case measure => simp [intOf]; omega
            | false =>
              have HV : Hid (Z = divP zs h k) := by
                show _ = _
                rw [← HZ.out, HDV.out, ← hF.out, HFS.out, GZ.out, if_neg (by omega), if_neg (by have := HPP.out; simpa using this)]
              go_wp2_with fail
              go_ret2
              exact ⟨ad, cp, rfl, by rw [HV.out]; exact HKo7.out, HB6.out⟩
        · obtain rfl : n = k := by omega
          have HV : Hid (Z = divP zs h n) := by
            show _ = _
            have h1 := hF.out
            rw [Nat.sub_self] at h1
            have h2 : n = fillF zs cN b h n 0 := h1
            rw [← HZ.out, HDV.out, ← h2]
          go_wp2_with fail
          go_ret2
          exact ⟨ad, cp, rfl, by rw [HV.out]; exact hO.out, hB.out⟩

set_option maxRecDepth 100000 in
set_option maxHeartbeats 3200000 in
theorem rShares_any (r s c most : Int) (a : Option Addr) (n cap : Nat) (zs : List Int) (w : World) (K : SlC w a n cap zs) (E : Int) (Z : List Int) (hE : shaE r s zs c most = E) (hZ : shaZ r s zs c most = Z) (m : Nat) (hm : Z.length = m) :
    Calls Try.prog 15 #[.int .i64 r, .int .i64 s, .slice a n cap, .int .i64 c, .int .i64 most] w fun e w' => ∃ ad cp, e = .returned (.tuple #[.slice ad m cp, .int .i64 E]) ∧ SlC w' ad m cp Z ∧ Below w.heap.size w w' := by
  have hn := K.len
  cases hok : okA r s zs c most with
  | true =>
    obtain ⟨p0, p1, p2, p3, ⟨p4, p5⟩, ⟨p6, p7⟩, ⟨p8, p9⟩, p10, p11⟩ := okA_parts hok
    obtain ⟨cN, rfl⟩ := Int.eq_ofNat_of_zero_le p8
    unfold shaZ at hZ
    unfold shaE at hE hZ
    rw [hok] at hE hZ
    rw [if_pos rfl] at hE hZ
    by_cases hb : r + most - s < 0
    · rw [if_pos hb] at hE hZ
      subst hE
      rw [if_neg (by omega)] at hZ
      subst hZ
      obtain rfl : 0 = m := hm
      have H1 := Lib.hid p0
      have H2 : Hid (inB (cN : Int) 30 = true) := inB_true p8 p9
      have H3 : Hid (inB most 1000 = true) := inB_true p10 p11
      clear hok p0 p1 p2 p3 p8
      go_enter Try.func15, Try.ntmps15
      go_wp2_with fail
      refine (R_night_any r s a n cap zs _ hn (K.step (by (repeat' (first | (with_reducible exact Below.refl _ _) | (with_reducible assumption) | (with_reducible exact Bw.out (by with_reducible assumption)) | (with_reducible refine bw_alloc ?_ _) | (with_reducible refine bw_step ?_ (by with_reducible assumption)) | (with_reducible refine Below.alloc ?_ ?_ _) | (with_reducible refine Below.drew ?_) | (with_reducible refine below_drewN ?_ _) | (with_reducible refine Below.setCell ?_ ?_ _) | (with_reducible refine below_step ?_ (by with_reducible assumption) ?_) | (with_reducible exact Nat.le_refl _) | omega | (simp; omega) | (simp; done))))).sl).mono ?_
      rintro e w1 ⟨rfl, hb1⟩
      have R_n_1 : Row w1 (w.heap.size) [.int .i64 r, .int .i64 s, .slice a n cap] := by (repeat' (first | (with_reducible assumption) | (with_reducible refine Row.new' _ _ _ (by first | rfl | (simp; done) | omega)) | (with_reducible refine Row.alloc ?_ _) | (with_reducible refine Row.drew ?_) | (with_reducible refine Row.drewN ?_ _) | (with_reducible refine Row.step ?_ (by with_reducible assumption)) | (with_reducible refine Row.set2' ?_ _ _; first | exact ⟨_, _, by with_reducible assumption⟩ | exact ⟨_, _, Row.alloc (by with_reducible assumption) _⟩ | exact ⟨_, _, Row.alloc (Row.alloc (by with_reducible assumption) _) _⟩) | (with_reducible refine Row.other ?_ (by first | omega | (simp; done) | (simp; omega)) _)))
      have c_n_0_1 := R_n_1.cell 0 rfl
      have c_n_1_1 := R_n_1.cell 1 rfl
      have c_n_2_1 := R_n_1.cell 2 rfl
      have l_n_1 := R_n_1.lt
      replace K := K.step (show Below w.heap.size w w1 by (repeat' (first | (with_reducible exact Below.refl _ _) | (with_reducible assumption) | (with_reducible exact Bw.out (by with_reducible assumption)) | (with_reducible refine bw_alloc ?_ _) | (with_reducible refine bw_step ?_ (by with_reducible assumption)) | (with_reducible refine Below.alloc ?_ ?_ _) | (with_reducible refine Below.drew ?_) | (with_reducible refine below_drewN ?_ _) | (with_reducible refine Below.setCell ?_ ?_ _) | (with_reducible refine below_step ?_ (by with_reducible assumption) ?_) | (with_reducible exact Nat.le_refl _) | omega | (simp; omega) | (simp; done))))
      have HB1 : Below w.heap.size w w1 := by (repeat' (first | (with_reducible exact Below.refl _ _) | (with_reducible assumption) | (with_reducible exact Bw.out (by with_reducible assumption)) | (with_reducible refine bw_alloc ?_ _) | (with_reducible refine bw_step ?_ (by with_reducible assumption)) | (with_reducible refine Below.alloc ?_ ?_ _) | (with_reducible refine Below.drew ?_) | (with_reducible refine below_drewN ?_ _) | (with_reducible refine Below.setCell ?_ ?_ _) | (with_reducible refine below_step ?_ (by with_reducible assumption) ?_) | (with_reducible exact Nat.le_refl _) | omega | (simp; omega) | (simp; done)))
      rw [H1.out]
      go_wp2_with fail
      refine (R_Cut_any _ _).mono ?_
      rintro e w' ⟨rfl, rfl⟩
      rw [H2.out]
      go_wp2_with fail
      refine (R24_Promise_any _ _).mono ?_
      rintro e w' ⟨rfl, rfl⟩
      rw [H3.out]
      go_wp2_with fail
      go_ret2
      refine ⟨none, 0, rfl, SlC.nil _, ?_⟩
      (repeat' (first | (with_reducible exact Below.refl _ _) | (with_reducible assumption) | (with_reducible exact Bw.out (by with_reducible assumption)) | (with_reducible refine bw_alloc ?_ _) | (with_reducible refine bw_step ?_ (by with_reducible assumption)) | (with_reducible refine Below.alloc ?_ ?_ _) | (with_reducible refine Below.drew ?_) | (with_reducible refine below_drewN ?_ _) | (with_reducible refine Below.setCell ?_ ?_ _) | (with_reducible refine below_step ?_ (by with_reducible assumption) ?_) | (with_reducible exact Nat.le_refl _) | omega | (simp; omega) | (simp; done)))
    · rw [if_neg hb] at hE hZ
      subst hE
      rw [if_pos rfl, Int.toNat_natCast] at hZ
      refine (rShares_ok r s most cN a n cap zs w K hok (by omega) Z hZ).mono ?_
      rintro e w' ⟨ad, cp, rfl, h1, h2⟩
      have hmn : n = m := by rw [← hm, ← hZ, divA, divP_length]; exact K.1.symm
      subst hmn
      exact ⟨ad, cp, rfl, h1.slcN hm, h2⟩
  | false =>
    unfold shaZ at hZ
    unfold shaE at hE hZ
    rw [hok] at hE hZ
    obtain rfl : (1 : Int) = E := hE
    obtain rfl : [] = Z := hZ
    obtain rfl : 0 = m := hm
    obtain ⟨b1, h1⟩ : ∃ b, nightB r s zs = b := ⟨_, rfl⟩
    obtain ⟨b2, h2⟩ : ∃ b, inB c 30 = b := ⟨_, rfl⟩
    obtain ⟨b3, h3⟩ : ∃ b, inB most 1000 = b := ⟨_, rfl⟩
    have H1 := Lib.hid h1
    have H2 := Lib.hid h2
    have H3 := Lib.hid h3
    unfold okA at hok
    rw [h1, h2, h3] at hok
    clear h1 h2 h3
    cases b1 with
    | false =>
      clear hok
      go_enter Try.func15, Try.ntmps15
      go_wp2_with fail
      refine (R_night_any r s a n cap zs _ hn (K.step (by (repeat' (first | (with_reducible exact Below.refl _ _) | (with_reducible assumption) | (with_reducible exact Bw.out (by with_reducible assumption)) | (with_reducible refine bw_alloc ?_ _) | (with_reducible refine bw_step ?_ (by with_reducible assumption)) | (with_reducible refine Below.alloc ?_ ?_ _) | (with_reducible refine Below.drew ?_) | (with_reducible refine below_drewN ?_ _) | (with_reducible refine Below.setCell ?_ ?_ _) | (with_reducible refine below_step ?_ (by with_reducible assumption) ?_) | (with_reducible exact Nat.le_refl _) | omega | (simp; omega) | (simp; done))))).sl).mono ?_
      rintro e w1 ⟨rfl, hb1⟩
      have R_n_1 : Row w1 (w.heap.size) [.int .i64 r, .int .i64 s, .slice a n cap] := by (repeat' (first | (with_reducible assumption) | (with_reducible refine Row.new' _ _ _ (by first | rfl | (simp; done) | omega)) | (with_reducible refine Row.alloc ?_ _) | (with_reducible refine Row.drew ?_) | (with_reducible refine Row.drewN ?_ _) | (with_reducible refine Row.step ?_ (by with_reducible assumption)) | (with_reducible refine Row.set2' ?_ _ _; first | exact ⟨_, _, by with_reducible assumption⟩ | exact ⟨_, _, Row.alloc (by with_reducible assumption) _⟩ | exact ⟨_, _, Row.alloc (Row.alloc (by with_reducible assumption) _) _⟩) | (with_reducible refine Row.other ?_ (by first | omega | (simp; done) | (simp; omega)) _)))
      have c_n_0_1 := R_n_1.cell 0 rfl
      have c_n_1_1 := R_n_1.cell 1 rfl
      have c_n_2_1 := R_n_1.cell 2 rfl
      have l_n_1 := R_n_1.lt
      replace K := K.step (show Below w.heap.size w w1 by (repeat' (first | (with_reducible exact Below.refl _ _) | (with_reducible assumption) | (with_reducible exact Bw.out (by with_reducible assumption)) | (with_reducible refine bw_alloc ?_ _) | (with_reducible refine bw_step ?_ (by with_reducible assumption)) | (with_reducible refine Below.alloc ?_ ?_ _) | (with_reducible refine Below.drew ?_) | (with_reducible refine below_drewN ?_ _) | (with_reducible refine Below.setCell ?_ ?_ _) | (with_reducible refine below_step ?_ (by with_reducible assumption) ?_) | (with_reducible exact Nat.le_refl _) | omega | (simp; omega) | (simp; done))))
      have HB1 : Below w.heap.size w w1 := by (repeat' (first | (with_reducible exact Below.refl _ _) | (with_reducible assumption) | (with_reducible exact Bw.out (by with_reducible assumption)) | (with_reducible refine bw_alloc ?_ _) | (with_reducible refine bw_step ?_ (by with_reducible assumption)) | (with_reducible refine Below.alloc ?_ ?_ _) | (with_reducible refine Below.drew ?_) | (with_reducible refine below_drewN ?_ _) | (with_reducible refine Below.setCell ?_ ?_ _) | (with_reducible refine below_step ?_ (by with_reducible assumption) ?_) | (with_reducible exact Nat.le_refl _) | omega | (simp; omega) | (simp; done)))
      rw [H1.out]
      go_wp2_with fail
      go_ret2
      refine ⟨none, 0, rfl, SlC.nil _, ?_⟩
      (repeat' (first | (with_reducible exact Below.refl _ _) | (with_reducible assumption) | (with_reducible exact Bw.out (by with_reducible assumption)) | (with_reducible refine bw_alloc ?_ _) | (with_reducible refine bw_step ?_ (by with_reducible assumption)) | (with_reducible refine Below.alloc ?_ ?_ _) | (with_reducible refine Below.drew ?_) | (with_reducible refine below_drewN ?_ _) | (with_reducible refine Below.setCell ?_ ?_ _) | (with_reducible refine below_step ?_ (by with_reducible assumption) ?_) | (with_reducible exact Nat.le_refl _) | omega | (simp; omega) | (simp; done)))
    | true =>
      cases b2 with
      | false =>
        clear hok
        go_enter Try.func15, Try.ntmps15
        go_wp2_with fail
        refine (R_night_any r s a n cap zs _ hn (K.step (by (repeat' (first | (with_reducible exact Below.refl _ _) | (with_reducible assumption) | (with_reducible exact Bw.out (by with_reducible assumption)) | (with_reducible refine bw_alloc ?_ _) | (with_reducible refine bw_step ?_ (by with_reducible assumption)) | (with_reducible refine Below.alloc ?_ ?_ _) | (with_reducible refine Below.drew ?_) | (with_reducible refine below_drewN ?_ _) | (with_reducible refine Below.setCell ?_ ?_ _) | (with_reducible refine below_step ?_ (by with_reducible assumption) ?_) | (with_reducible exact Nat.le_refl _) | omega | (simp; omega) | (simp; done))))).sl).mono ?_
        rintro e w1 ⟨rfl, hb1⟩
        have R_n_1 : Row w1 (w.heap.size) [.int .i64 r, .int .i64 s, .slice a n cap] := by (repeat' (first | (with_reducible assumption) | (with_reducible refine Row.new' _ _ _ (by first | rfl | (simp; done) | omega)) | (with_reducible refine Row.alloc ?_ _) | (with_reducible refine Row.drew ?_) | (with_reducible refine Row.drewN ?_ _) | (with_reducible refine Row.step ?_ (by with_reducible assumption)) | (with_reducible refine Row.set2' ?_ _ _; first | exact ⟨_, _, by with_reducible assumption⟩ | exact ⟨_, _, Row.alloc (by with_reducible assumption) _⟩ | exact ⟨_, _, Row.alloc (Row.alloc (by with_reducible assumption) _) _⟩) | (with_reducible refine Row.other ?_ (by first | omega | (simp; done) | (simp; omega)) _)))
        have c_n_0_1 := R_n_1.cell 0 rfl
        have c_n_1_1 := R_n_1.cell 1 rfl
        have c_n_2_1 := R_n_1.cell 2 rfl
        have l_n_1 := R_n_1.lt
        replace K := K.step (show Below w.heap.size w w1 by (repeat' (first | (with_reducible exact Below.refl _ _) | (with_reducible assumption) | (with_reducible exact Bw.out (by with_reducible assumption)) | (with_reducible refine bw_alloc ?_ _) | (with_reducible refine bw_step ?_ (by with_reducible assumption)) | (with_reducible refine Below.alloc ?_ ?_ _) | (with_reducible refine Below.drew ?_) | (with_reducible refine below_drewN ?_ _) | (with_reducible refine Below.setCell ?_ ?_ _) | (with_reducible refine below_step ?_ (by with_reducible assumption) ?_) | (with_reducible exact Nat.le_refl _) | omega | (simp; omega) | (simp; done))))
        have HB1 : Below w.heap.size w w1 := by (repeat' (first | (with_reducible exact Below.refl _ _) | (with_reducible assumption) | (with_reducible exact Bw.out (by with_reducible assumption)) | (with_reducible refine bw_alloc ?_ _) | (with_reducible refine bw_step ?_ (by with_reducible assumption)) | (with_reducible refine Below.alloc ?_ ?_ _) | (with_reducible refine Below.drew ?_) | (with_reducible refine below_drewN ?_ _) | (with_reducible refine Below.setCell ?_ ?_ _) | (with_reducible refine below_step ?_ (by with_reducible assumption) ?_) | (with_reducible exact Nat.le_refl _) | omega | (simp; omega) | (simp; done)))
        rw [H1.out]
        go_wp2_with fail
        refine (R_Cut_any _ _).mono ?_
        rintro e w' ⟨rfl, rfl⟩
        rw [H2.out]
        go_wp2_with fail
        go_ret2
        refine ⟨none, 0, rfl, SlC.nil _, ?_⟩
        (repeat' (first | (with_reducible exact Below.refl _ _) | (with_reducible assumption) | (with_reducible exact Bw.out (by with_reducible assumption)) | (with_reducible refine bw_alloc ?_ _) | (with_reducible refine bw_step ?_ (by with_reducible assumption)) | (with_reducible refine Below.alloc ?_ ?_ _) | (with_reducible refine Below.drew ?_) | (with_reducible refine below_drewN ?_ _) | (with_reducible refine Below.setCell ?_ ?_ _) | (with_reducible refine below_step ?_ (by with_reducible assumption) ?_) | (with_reducible exact Nat.le_refl _) | omega | (simp; omega) | (simp; done)))
      | true =>
        cases b3 with
        | false =>
          clear hok
          go_enter Try.func15, Try.ntmps15
          go_wp2_with fail
          refine (R_night_any r s a n cap zs _ hn (K.step (by (repeat' (first | (with_reducible exact Below.refl _ _) | (with_reducible assumption) | (with_reducible exact Bw.out (by with_reducible assumption)) | (with_reducible refine bw_alloc ?_ _) | (with_reducible refine bw_step ?_ (by with_reducible assumption)) | (with_reducible refine Below.alloc ?_ ?_ _) | (with_reducible refine Below.drew ?_) | (with_reducible refine below_drewN ?_ _) | (with_reducible refine Below.setCell ?_ ?_ _) | (with_reducible refine below_step ?_ (by with_reducible assumption) ?_) | (with_reducible exact Nat.le_refl _) | omega | (simp; omega) | (simp; done))))).sl).mono ?_
          rintro e w1 ⟨rfl, hb1⟩
          have R_n_1 : Row w1 (w.heap.size) [.int .i64 r, .int .i64 s, .slice a n cap] := by (repeat' (first | (with_reducible assumption) | (with_reducible refine Row.new' _ _ _ (by first | rfl | (simp; done) | omega)) | (with_reducible refine Row.alloc ?_ _) | (with_reducible refine Row.drew ?_) | (with_reducible refine Row.drewN ?_ _) | (with_reducible refine Row.step ?_ (by with_reducible assumption)) | (with_reducible refine Row.set2' ?_ _ _; first | exact ⟨_, _, by with_reducible assumption⟩ | exact ⟨_, _, Row.alloc (by with_reducible assumption) _⟩ | exact ⟨_, _, Row.alloc (Row.alloc (by with_reducible assumption) _) _⟩) | (with_reducible refine Row.other ?_ (by first | omega | (simp; done) | (simp; omega)) _)))
          have c_n_0_1 := R_n_1.cell 0 rfl
          have c_n_1_1 := R_n_1.cell 1 rfl
          have c_n_2_1 := R_n_1.cell 2 rfl
          have l_n_1 := R_n_1.lt
          replace K := K.step (show Below w.heap.size w w1 by (repeat' (first | (with_reducible exact Below.refl _ _) | (with_reducible assumption) | (with_reducible exact Bw.out (by with_reducible assumption)) | (with_reducible refine bw_alloc ?_ _) | (with_reducible refine bw_step ?_ (by with_reducible assumption)) | (with_reducible refine Below.alloc ?_ ?_ _) | (with_reducible refine Below.drew ?_) | (with_reducible refine below_drewN ?_ _) | (with_reducible refine Below.setCell ?_ ?_ _) | (with_reducible refine below_step ?_ (by with_reducible assumption) ?_) | (with_reducible exact Nat.le_refl _) | omega | (simp; omega) | (simp; done))))
          have HB1 : Below w.heap.size w w1 := by (repeat' (first | (with_reducible exact Below.refl _ _) | (with_reducible assumption) | (with_reducible exact Bw.out (by with_reducible assumption)) | (with_reducible refine bw_alloc ?_ _) | (with_reducible refine bw_step ?_ (by with_reducible assumption)) | (with_reducible refine Below.alloc ?_ ?_ _) | (with_reducible refine Below.drew ?_) | (with_reducible refine below_drewN ?_ _) | (with_reducible refine Below.setCell ?_ ?_ _) | (with_reducible refine below_step ?_ (by with_reducible assumption) ?_) | (with_reducible exact Nat.le_refl _) | omega | (simp; omega) | (simp; done)))
          rw [H1.out]
          go_wp2_with fail
          refine (R_Cut_any _ _).mono ?_
          rintro e w' ⟨rfl, rfl⟩
          rw [H2.out]
          go_wp2_with fail
          refine (R24_Promise_any _ _).mono ?_
          rintro e w' ⟨rfl, rfl⟩
          rw [H3.out]
          go_wp2_with fail
          go_ret2
          refine ⟨none, 0, rfl, SlC.nil _, ?_⟩
          (repeat' (first | (with_reducible exact Below.refl _ _) | (with_reducible assumption) | (with_reducible exact Bw.out (by with_reducible assumption)) | (with_reducible refine bw_alloc ?_ _) | (with_reducible refine bw_step ?_ (by with_reducible assumption)) | (with_reducible refine Below.alloc ?_ ?_ _) | (with_reducible refine Below.drew ?_) | (with_reducible refine below_drewN ?_ _) | (with_reducible refine Below.setCell ?_ ?_ _) | (with_reducible refine below_step ?_ (by with_reducible assumption) ?_) | (with_reducible exact Nat.le_refl _) | omega | (simp; omega) | (simp; done)))
        | true => exact absurd hok (by decide)

end Go.Proofs.Ytijbhdpaikajkaa
