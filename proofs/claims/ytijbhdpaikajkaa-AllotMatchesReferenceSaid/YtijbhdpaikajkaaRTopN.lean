/-
  The reference's Top: the channels lie in a block of the call's own.
-/
import Derived.Test.YtijbhdpaikajkaaRTop
namespace Go.Proofs.Ytijbhdpaikajkaa
set_option linter.unusedSimpArgs false
set_option linter.unusedVariables false
open Go.RowKit

set_option maxRecDepth 100000 in
set_option maxHeartbeats 6400000 in
theorem R_top_new (a : Option Addr) (n cap : Nat) (zs : List Int) (cut : Int) (w : World) (hs : SlI w a n zs) (h : TopOk zs cut) :
    Calls Try.prog 48 #[.slice a n cap, .int .i64 cut] w
      fun e w' => ∃ v, e = .returned (.tuple #[.int .i64 (topS zs cut.toNat), v, .int .i64 0]) ∧ OwnV w' w.heap.size v (topL zs cut.toNat) ∧ Below w.heap.size w w' := by
  obtain ⟨hb, hc1, hc2⟩ := h
  obtain ⟨c, rfl⟩ := Int.eq_ofNat_of_zero_le hc1
  rw [Int.toNat_natCast]
  have hc3 : c ≤ 30 := by omega
  obtain ⟨hl30, hin⟩ := sharesB_in hb
  have hln := hs.1
  have hn30 : n ≤ 30 := by omega
  have HLN := Lib.hid hln
  have HIN := Lib.hid hin
  have HS := Lib.hid hs
  obtain ⟨m, hmc⟩ : ∃ m, min c n = m := ⟨_, rfl⟩
  have hm1 : m ≤ c := by omega
  have hm2 : m ≤ n := by omega
  have HM : Hid (m < c → m = n) := by show _ → _; omega
  clear hln hin hl30 hmc
  go_enter Try.func48, Try.ntmps48
  go_wp2_with fail
  refine (R_shares_any _ _ _ zs _ (by omega) hs).mono ?_
  rintro e w' ⟨rfl, rfl⟩
  clear hs
  go_wp2_with fail
  go_loopw [8, 9] (fun s v wr => ∃ (k : Nat) (S : Int) (ad : Option Addr) (cp : Nat), k ≤ m ∧ s = .int .i64 S ∧ v = .slice ad k cp ∧ 0 ≤ S ∧ S ≤ 400 * (k : Int) ∧ Hid (topS zs k = S) ∧ Hid (OwnV wr w.heap.size (.slice ad k cp) (topL zs k)) ∧ Hid (Below w.heap.size w wr)) (fun s v _ => n - lenOf v)
  case atStart => exact ⟨0, 0, none, 0, Nat.zero_le _, rfl, rfl, by omega, by omega, topS_zero zs, by show OwnV _ _ _ _; rw [show topL zs 0 = [] by simp [topL]]; exact OwnV.nil _ _, Below.refl _ _⟩
  case round =>
    obtain ⟨k, S, ad, cp, hk, rfl, rfl, hS1, hS2, hS, hO, hB⟩ := hrel
    obtain ⟨wo, hwo⟩ : ∃ wo : World, wo = wr := ⟨_, rfl⟩
    subst hwo
    by_cases hlt : k < m
    · have hkc : k < c := by omega
      have hkn : k < n := by omega
      have d1 : decide ((k : Int) < (c : Int)) = true := by simp; omega
      have d2 : decide ((k : Int) < (n : Int)) = true := by simp; omega
      have d3 : decide (k < n) = true := by simp; omega
      have d4 : decide (k < c) = true := by simp; omega
      go_wp2_with fail
      go_loopw [10, 11] (fun u i wx => ∃ (j : Nat) (b : Int), j ≤ n ∧ i = .int .i64 j ∧ u = .int .i64 b ∧ -1 ≤ b ∧ b < j ∧ Hid (bst zs (topL zs k) j = b) ∧ Hid (∃ q, wx = wo.drewN q)) (fun _ i _ => n - (intOf i).toNat)
      case atStart => exact ⟨0, -1, Nat.zero_le _, rfl, rfl, by omega, by omega, rfl, 0, rfl⟩
      case round =>
        obtain ⟨j, b, hj, rfl, rfl, hb1, hb2, hbst, hq⟩ := hrel
        obtain ⟨q, hq⟩ := hq.out
        subst hq
        by_cases hjn : j < n
        · have hSx := (HS.out.below hB.out)
          obtain ⟨b1, o1, z, e, _, c1, g1, _, _⟩ := hSx.get hjn
          subst e
          have i1 : (0 : Int) ≤ (j : Int) := by omega
          have i2 : (j : Int) < (n : Int) := by omega
          by_cases hmem : (j : Int) ∈ topL zs k
          · have hnx : Hid (bst zs (topL zs k) (j + 1) = b) := (bst_succ_in hmem).trans hbst.out
            have hd : decide ((j : Int) ∈ topL zs k) = true := by simpa using hmem
            have HD := Lib.hid hd
            clear hmem hd g1
            go_wp2_with fail
            refine (R_has_own _ w.heap.size (topL zs k) j true _ (by rw [topL_length]; omega) (hO.out.drewN q) HD.out).mono ?_
            rintro e w' ⟨rfl, rfl⟩
            go_wp2_with fail
            go_quiet (fail)
            go_wp2_with fail
            go_roundw
            case rel => exact ⟨j + 1, b, by omega, by go_num, rfl, by omega, by omega, hnx, _, rfl⟩
            case measure => simp [intOf]; omega
          · have hd : decide ((j : Int) ∈ topL zs k) = false := by simpa using hmem
            have HD := Lib.hid hd
            by_cases hbn : b < 0
            · have hnx : Hid (bst zs (topL zs k) (j + 1) = j) := bst_succ_new hmem (Or.inl (by rw [hbst.out]; exact hbn))
              have e1 : decide (b < 0) = true := by simpa using hbn
              clear hmem hd g1
              go_wp2_with fail
              refine (R_has_own _ w.heap.size (topL zs k) j false _ (by rw [topL_length]; omega) (hO.out.drewN q) HD.out).mono ?_
              rintro e w' ⟨rfl, rfl⟩
              go_wp2_with fail
              go_quiet (fail)
              go_wp2_with fail
              go_roundw
              case rel => exact ⟨j + 1, j, by omega, by go_num, rfl, by omega, by omega, hnx, _, rfl⟩
              case measure => simp [intOf]; omega
            · obtain ⟨p, rfl⟩ := Int.eq_ofNat_of_zero_le (show 0 ≤ b by omega)
              obtain ⟨b2, o2, y, e, _, c2, g2, _, _⟩ := hSx.get (show p < n by omega)
              cases e
              have e1 : decide ((p : Int) < 0) = false := by simp
              have i3 : (0 : Int) ≤ (p : Int) := by omega
              have i4 : (p : Int) < (n : Int) := by omega
              have hpz : shr zs p = y := by unfold shr; rw [Int.toNat_natCast]; exact g2.out
              have hjz : shr zs j = z := by unfold shr; rw [Int.toNat_natCast]; exact g1.out
              by_cases hyz : y < z
              · have hnx : Hid (bst zs (topL zs k) (j + 1) = j) := bst_succ_new hmem (Or.inr (by rw [hbst.out, hpz, hjz]; exact hyz))
                have e2 : decide (y < z) = true := by simpa using hyz
                clear hmem hd g1 g2 hpz hjz
                go_wp2_with fail
                refine (R_has_own _ w.heap.size (topL zs k) j false _ (by rw [topL_length]; omega) (hO.out.drewN q) HD.out).mono ?_
                rintro e w' ⟨rfl, rfl⟩
                go_wp2_with fail
                go_quiet (fail)
                go_wp2_with fail
                go_roundw
                case rel => exact ⟨j + 1, j, by omega, by go_num, rfl, by omega, by omega, hnx, _, rfl⟩
                case measure => simp [intOf]; omega
              · have hnx : Hid (bst zs (topL zs k) (j + 1) = p) := by
                  show _ = _
                  rw [bst_succ_old (by rw [hbst.out, hpz, hjz]; omega)]; exact hbst.out
                have e2 : decide (y < z) = false := by simpa using hyz
                clear hmem hd g1 g2 hpz hjz
                go_wp2_with fail
                refine (R_has_own _ w.heap.size (topL zs k) j false _ (by rw [topL_length]; omega) (hO.out.drewN q) HD.out).mono ?_
                rintro e w' ⟨rfl, rfl⟩
                go_wp2_with fail
                go_quiet (fail)
                go_wp2_with fail
                go_roundw
                case rel => exact ⟨j + 1, p, by omega, by go_num, rfl, by omega, by omega, hnx, _, rfl⟩
                case measure => simp [intOf]; omega
        · obtain rfl : j = n := by omega
          have hkl : k < zs.length := by rw [HLN.out]; omega
          have hbt : bst zs (topL zs k) j = (topAll zs).getD k 0 := by rw [← HLN.out]; exact bst_top hkl
          rw [hbst.out] at hbt
          obtain ⟨t1, t2⟩ := topAll_mem.1 (getD_mem_int (show k < (topAll zs).length by rw [topAll_length]; exact hkl))
          rw [← hbt] at t1 t2
          rw [HLN.out] at t2
          obtain ⟨t, rfl⟩ := Int.eq_ofNat_of_zero_le t1
          obtain ⟨b2, o2, y, e, _, c2, g2, _, gm⟩ := (HS.out.below hB.out).get (show t < j by omega)
          subst e
          obtain ⟨y1, y2⟩ := HIN.out y gm.out
          have hS' : Hid (topS zs (k + 1) = S + y) := by
            show _ = _
            rw [topS_succ hkl, hS.out, ← hbt]
            unfold shr; rw [Int.toNat_natCast, g2.out]
          have hL' : Hid (topL zs (k + 1) = topL zs k ++ [(t : Int)]) := by
            show _ = _
            rw [topL_succ hkl, ← hbt]
          clear hbt g2 t1
          have i3 : (0 : Int) ≤ (t : Int) := by omega
          have i4 : (t : Int) < (j : Int) := by omega
          go_wp2_with (at_builtin; refine wpList_append_int rfl _ _ _ rfl Try.underlying22 w.heap.size _ (topL zs k) rfl ((hO.out.drewN q).alloc _) wo.heap.size 1 (t : Int) rfl ((Row.new' (wo.drewN q) [_] _ rfl).cell 0 rfl) (by rw [topL_length]; omega) (by have := hB.out.size; simp; omega) ?_; intro v' w3 hown1 hbl1 hsz1)
          have H2 := Lib.hid (hbl1 w (Below.alloc (below_drewN hB.out q) (by simpa using hB.out.size) _))
          rw [← hL'.out] at hown1
          obtain ⟨ad3, cp3, rfl, ho3⟩ := hown1.form (k + 1) (by rw [topL_length, HLN.out]; omega)
          have H1 := Lib.hid ho3
          clear hown1 hbl1 ho3
          go_wp2_with fail
          go_roundw
          case rel => exact ⟨k + 1, S + y, ad3, cp3, by omega, rfl, rfl, by omega, by omega, hS'.out, H1.out, H2.out⟩
          case measure => simp [lenOf]; omega
    · obtain rfl : k = m := by omega
      have hfin : Hid (topS zs c = S ∧ topL zs c = topL zs k) := by
        show _ ∧ _
        by_cases hkc : k < c
        · have := HM.out hkc
          subst this
          have e1 : topS zs c = topS zs k := by rw [topS_all (k := c) (by rw [HLN.out]; omega), topS_all (k := k) (by rw [HLN.out]; omega)]
          refine ⟨e1.trans hS.out, ?_⟩
          unfold topL
          rw [List.take_of_length_le (by rw [topAll_length, HLN.out]; omega), List.take_of_length_le (by rw [topAll_length, HLN.out]; omega)]
        · obtain rfl : c = k := by omega
          exact ⟨hS.out, rfl⟩
      have hw : Hid (OwnV wo w.heap.size (.slice ad k cp) (topL zs k)) := hO.out
      by_cases hkc : k < c
      · have := HM.out hkc
        subst this
        have d1 : decide ((k : Int) < (c : Int)) = true := by simp; omega
        have d4 : decide (k < c) = true := by simp; omega
        go_wp2_with fail
        go_ret3
        exact ⟨.slice ad k cp, by (try rw [hfin.out.1]); (try rfl), by rw [hfin.out.2]; exact hw.out, hB.out⟩
      · obtain rfl : c = k := by omega
        go_wp2_with fail
        go_ret3
        exact ⟨.slice ad c cp, by (try rw [hfin.out.1]); (try rfl), hw.out, hB.out⟩

end Go.Proofs.Ytijbhdpaikajkaa
