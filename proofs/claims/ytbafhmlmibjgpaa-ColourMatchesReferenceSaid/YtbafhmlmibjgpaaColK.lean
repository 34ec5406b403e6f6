/-
  The reference's SameInts, Check, Meet; usable, height of law18.
-/
import Derived.Test.YtbafhmlmibjgpaaColI
namespace Go.Proofs.Ytbafhmlmibjgpaa
set_option linter.unusedSimpArgs false
set_option linter.unusedVariables false
open Go.RowKit

theorem take_succ_getD {l : List Int} {k : Nat} (h : k < l.length) : l.take (k + 1) = l.take k ++ [l.getD k 0] := by
  rw [List.take_succ_eq_append_getElem h]; simp [List.getD, h]

set_option maxRecDepth 100000 in
set_option maxHeartbeats 1600000 in
theorem R_sameInts_q (a b : Option Addr) (n m cap cap2 : Nat) (zs ys : List Int) (w : World) (hn : n ≤ 9223372036854775807) (hm : m ≤ 9223372036854775807) (hs : SlI w a n zs) (ht : SlI w b m ys) :
    Calls Try.prog 13 #[.slice a n cap, .slice b m cap2] w fun e w' => e = .returned (.bool (decide (zs = ys))) ∧ ∃ q, w' = w.drewN q := by
  have l1 := Lib.hid hs.1
  have l2 := Lib.hid ht.1
  have HS := Lib.hid hs
  have HT := Lib.hid ht
  clear hs ht
  by_cases hnm : n = m
  · subst hnm
    obtain ⟨R, hR⟩ : ∃ R, decide (zs = ys) = R := ⟨_, rfl⟩
    rw [hR]
    have HR := Lib.hid hR
    clear hR
    go_enter Try.func13, Try.ntmps13
    go_wp2_with fail
    go_loopw [5] (fun i wr => ∃ k : Nat, k ≤ n ∧ i = .int .i64 k ∧ Hid (zs.take k = ys.take k) ∧ Hid (∃ q, wr = w.drewN q)) (fun i _ => n - (intOf i).toNat)
    case atStart => exact ⟨0, Nat.zero_le _, rfl, by show _ = _; simp, 0, rfl⟩
    case round =>
      obtain ⟨k, hk, rfl, hT, hq⟩ := hrel
      obtain ⟨q, hq⟩ := hq.out
      subst hq
      by_cases hlt : k < n
      · obtain ⟨b1, o1, x, e1, _, c1, g1, _, _⟩ := HS.out.get hlt
        obtain ⟨b2, o2, y, e2, _, c2, g2, _, _⟩ := HT.out.get hlt
        subst e1 e2
        have i1 : (0 : Int) ≤ (k : Int) := by omega
        have i2 : (k : Int) < (n : Int) := by omega
        by_cases hxy : x = y
        · subst hxy
          go_wp2_with fail
          go_quiet (fail)
          go_wp2_with fail
          go_roundw
          case rel => exact ⟨k + 1, by omega, by go_num, by show _ = _; rw [take_succ_getD (by rw [l1.out]; exact hlt), take_succ_getD (by rw [l2.out]; exact hlt), hT.out, g1.out, g2.out], _, rfl⟩
          case measure => simp [intOf]; omega
        · have hb : (x != y) = true := by simpa using hxy
          have hr : R = false := by
            rw [← HR.out]; simp; intro h; rw [h] at g1; exact hxy (g1.out.symm.trans g2.out)
          subst hr
          clear hxy
          go_wp2_with fail
          go_quiet (fail)
          go_wp2_with fail
          go_ret
          exact ⟨rfl, _, by first | rfl | exact World.drewN_drewN _ _ _⟩
      · obtain rfl : n = k := by omega
        have hr : R = true := by
          rw [← HR.out]; simp
          have := hT.out
          rwa [List.take_of_length_le (by rw [l1.out]; omega), List.take_of_length_le (by rw [l2.out]; omega)] at this
        subst hr
        go_wp2_with fail
        go_ret
        exact ⟨rfl, q, rfl⟩
  · have hr : decide (zs = ys) = false := by
      simp; intro h; apply hnm; rw [← l1.out, ← l2.out, h]
    rw [hr]
    clear hr
    have hb : ((n : Int) != (m : Int)) = true := by simp; omega
    have hb2 : (n != m) = true := by simp; omega
    clear hnm
    go_enter Try.func13, Try.ntmps13
    go_wp2_with fail
    go_ret
    exact ⟨rfl, 0, rfl⟩

theorem R_sameInts (v u : Value) (zs ys : List Int) (w : World) (hs : SlV w v zs) (ht : SlV w u ys) :
    Calls Try.prog 13 #[v, u] w fun e w' => e = .returned (.bool (decide (zs = ys))) ∧ Below w.heap.size w w' := by
  obtain ⟨a, c, rfl, h1, h2, h3⟩ := hs
  obtain ⟨b, d, rfl, g1, g2, g3⟩ := ht
  unfold maxLen at h3 g3
  refine (R_sameInts_q a b _ _ c d zs ys w (by omega) (by omega) h1 g1).mono ?_
  rintro e w' ⟨he, q, rfl⟩
  exact ⟨he, below_drewN (Below.refl _ _) q⟩

def sameB (r1 s1 : Int) (zs : List Int) (r2 s2 : Int) (ys : List Int) : Bool := decide (r1 = r2) && (decide (s1 = s2) && decide (zs = ys))

theorem R_same_any (v u : Value) (zs ys : List Int) (w : World) (hv : SlV w v zs) (hu : SlV w u ys) (hz : zs.length ≤ 1000000) (hy : ys.length ≤ 1000000) :
    Calls Try.prog 13 #[v, u] w fun e w' => e = .returned (.bool (decide (zs = ys))) ∧ Below w.heap.size w w' := by
  obtain ⟨a, c, rfl, h1, _⟩ := hv
  obtain ⟨b, d, rfl, h2, _⟩ := hu
  refine (R_sameInts_q a b _ _ c d zs ys w (by omega) (by omega) h1 h2).mono ?_
  rintro e w' ⟨rfl, q, rfl⟩
  exact ⟨rfl, by (repeat' (first | (with_reducible exact Below.refl _ _) | (with_reducible assumption) | (with_reducible exact Bw.out (by with_reducible assumption)) | (with_reducible refine bw_alloc ?_ _) | (with_reducible refine bw_step ?_ (by with_reducible assumption)) | (with_reducible refine Below.alloc ?_ ?_ _) | (with_reducible refine Below.drew ?_) | (with_reducible refine below_drewN ?_ _) | (with_reducible refine Below.setCell ?_ ?_ _) | (with_reducible refine below_step ?_ (by with_reducible assumption) ?_) | (with_reducible exact Nat.le_refl _) | omega | (simp; omega) | (simp; done)))⟩

set_option maxRecDepth 100000 in
set_option maxHeartbeats 1600000 in
theorem R_check_any (a : Option Addr) (n cap : Nat) (l : List SpV) (w : World) (hm : n ≤ 9223372036854775807) (hs : SlP w a n l) :
    Calls Try.prog 25 #[.slice a n cap] w fun e w' => e = .returned (.int .i64 (chkE l)) ∧ ∃ q, w' = w.drewN q := by
  obtain ⟨R, hR⟩ : ∃ R, R = chkE l := ⟨_, rfl⟩
  rw [← hR]
  have HR := Lib.hid hR
  have HS := Lib.hid hs
  have HL := Lib.hid hs.1
  clear hR hs
  by_cases h3 : 3000 < n
  · go_enter Try.func25, Try.ntmps25
    go_wp2_with fail
    go_ret
    exact ⟨ret_int (by rw [HR.out]; unfold chkE; rw [if_pos (by rw [HL.out]; exact h3)]), 0, rfl⟩
  · go_enter Try.func25, Try.ntmps25
    go_wp2_with fail
    go_loopw [3] (fun i wr => ∃ k : Nat, k ≤ n ∧ i = .int .i64 k ∧ Hid (l.any wrB = (l.drop k).any wrB) ∧ Hid (∃ q, wr = w.drewN q)) (fun i _ => n - (intOf i).toNat)
    case atStart => exact ⟨0, Nat.zero_le _, rfl, rfl, 0, rfl⟩
    case round =>
      obtain ⟨k, hk, rfl, hA, hq⟩ := hrel
      obtain ⟨q, hq⟩ := hq.out
      subst hq
      by_cases hlt : k < n
      · obtain ⟨f, u, b, off, hx, hd, _, rfl, hb, c0, c1⟩ := HS.out.get hlt
        have i1 : (0 : Int) ≤ (k : Int) := by omega
        have i2 : (k : Int) < (n : Int) := by omega
        clear hx
        by_cases h0 : f < 0
        · have HWR : Hid (wrB (f, u) = true) := by show _ = _; simp [wrB, h0]
          go_wp2_with fail
          go_quiet (fail)
          go_wp2_with fail
          go_ret
          exact ⟨ret_int (by rw [HR.out]; unfold chkE; rw [if_neg (by rw [HL.out]; omega), if_pos (by rw [hA.out, hd.out, List.any_cons, HWR.out]; rfl)]), _, by first | rfl | exact World.drewN_drewN _ _ _⟩
        · by_cases h1 : u ≤ f
          · have HWR : Hid (wrB (f, u) = true) := by show _ = _; simp [wrB, h1]
            go_wp2_with fail
            go_quiet (fail)
            go_wp2_with fail
            go_ret
            exact ⟨ret_int (by rw [HR.out]; unfold chkE; rw [if_neg (by rw [HL.out]; omega), if_pos (by rw [hA.out, hd.out, List.any_cons, HWR.out]; rfl)]), _, by first | rfl | exact World.drewN_drewN _ _ _⟩
          · by_cases h2 : 1000000000 < u
            · have HWR : Hid (wrB (f, u) = true) := by show _ = _; simp [wrB, h2]
              go_wp2_with fail
              go_quiet (fail)
              go_wp2_with fail
              go_ret
              exact ⟨ret_int (by rw [HR.out]; unfold chkE; rw [if_neg (by rw [HL.out]; omega), if_pos (by rw [hA.out, hd.out, List.any_cons, HWR.out]; rfl)]), _, by first | rfl | exact World.drewN_drewN _ _ _⟩
            · have HWR : Hid (wrB (f, u) = false) := by show _ = _; simp [wrB]; omega
              go_wp2_with fail
              go_quiet (fail)
              go_wp2_with fail
              go_roundw
              case rel => exact ⟨k + 1, by omega, by go_num, by show _ = _; rw [hA.out, hd.out, List.any_cons, HWR.out]; rfl, _, rfl⟩
              case measure => simp [intOf]; omega
      · obtain rfl : n = k := by omega
        go_wp2_with fail
        go_ret
        exact ⟨ret_int (by rw [HR.out]; unfold chkE; rw [if_neg (by rw [HL.out]; omega), if_neg (by rw [hA.out, List.drop_of_length_le (by rw [HL.out]; exact Nat.le_refl _)]; simp)]), q, rfl⟩

/-- Are the spans usable? -/
def usS (l : List SpV) : Bool := decide (l.length ≤ 100) && decide (chkE l = 0)
set_option maxRecDepth 100000 in
set_option maxHeartbeats 1600000 in
theorem usable_any (a : Option Addr) (n cap : Nat) (l : List SpV) (w : World) (hm : n ≤ 9223372036854775807) (hs : SlP w a n l) :
    Calls Try.prog 18 #[.slice a n cap] w fun e w' => e = .returned (.bool (usS l)) ∧ Below w.heap.size w w' := by
  have HS := Lib.hid hs
  have HL := Lib.hid hs.1
  clear hs
  by_cases h0 : n ≤ 100
  · obtain ⟨E, hE⟩ : ∃ E, chkE l = E := ⟨_, rfl⟩
    have HE := Lib.hid hE
    have HU : Hid (usS l = (E == 0)) := by show _ = _; unfold usS; rw [HL.out, hE]; simp [h0]; rfl
    rw [HU.out]
    clear hE
    go_enter Try.func18, Try.ntmps18
    go_wp2_with fail
    refine (R_check_any a n cap l _ (by omega) HS.out).mono ?_
    rintro e w' ⟨rfl, q, rfl⟩
    rw [HE.out]
    go_wp2_with fail
    go_ret
    exact ⟨rfl, by (repeat' (first | (with_reducible exact Below.refl _ _) | (with_reducible assumption) | (with_reducible exact Bw.out (by with_reducible assumption)) | (with_reducible refine bw_alloc ?_ _) | (with_reducible refine bw_step ?_ (by with_reducible assumption)) | (with_reducible refine Below.alloc ?_ ?_ _) | (with_reducible refine Below.drew ?_) | (with_reducible refine below_drewN ?_ _) | (with_reducible refine Below.setCell ?_ ?_ _) | (with_reducible refine below_step ?_ (by with_reducible assumption) ?_) | (with_reducible exact Nat.le_refl _) | omega | (simp; omega) | (simp; done)))⟩
  · have HU : usS l = false := by unfold usS; rw [HL.out]; simp [h0]
    rw [HU]
    go_enter Try.func18, Try.ntmps18
    go_wp2_with fail
    go_ret
    exact ⟨rfl, by (repeat' (first | (with_reducible exact Below.refl _ _) | (with_reducible assumption) | (with_reducible exact Bw.out (by with_reducible assumption)) | (with_reducible refine bw_alloc ?_ _) | (with_reducible refine bw_step ?_ (by with_reducible assumption)) | (with_reducible refine Below.alloc ?_ ?_ _) | (with_reducible refine Below.drew ?_) | (with_reducible refine below_drewN ?_ _) | (with_reducible refine Below.setCell ?_ ?_ _) | (with_reducible refine below_step ?_ (by with_reducible assumption) ?_) | (with_reducible exact Nat.le_refl _) | omega | (simp; omega) | (simp; done)))⟩

set_option maxRecDepth 100000 in
set_option maxHeartbeats 1600000 in
theorem R_meet_any (f u g v : Int) (w : World) :
    Calls Try.prog 19 #[.agg #[.int .i64 f, .int .i64 u], .agg #[.int .i64 g, .int .i64 v]] w fun e w' => e = .returned (.bool (meetB (f, u) (g, v))) ∧ Below w.heap.size w w' := by
  by_cases h1 : f < v
  · rw [show meetB (f, u) (g, v) = decide (g < u) by simp [meetB, h1]]
    go_enter Try.func19, Try.ntmps19
    go_wp2_with fail
    go_ret
    exact ⟨rfl, by (repeat' (first | (with_reducible exact Below.refl _ _) | (with_reducible assumption) | (with_reducible exact Bw.out (by with_reducible assumption)) | (with_reducible refine bw_alloc ?_ _) | (with_reducible refine bw_step ?_ (by with_reducible assumption)) | (with_reducible refine Below.alloc ?_ ?_ _) | (with_reducible refine Below.drew ?_) | (with_reducible refine below_drewN ?_ _) | (with_reducible refine Below.setCell ?_ ?_ _) | (with_reducible refine below_step ?_ (by with_reducible assumption) ?_) | (with_reducible exact Nat.le_refl _) | omega | (simp; omega) | (simp; done)))⟩
  · rw [show meetB (f, u) (g, v) = false by simp [meetB, h1]]
    go_enter Try.func19, Try.ntmps19
    go_wp2_with fail
    go_ret
    exact ⟨rfl, by (repeat' (first | (with_reducible exact Below.refl _ _) | (with_reducible assumption) | (with_reducible exact Bw.out (by with_reducible assumption)) | (with_reducible refine bw_alloc ?_ _) | (with_reducible refine bw_step ?_ (by with_reducible assumption)) | (with_reducible refine Below.alloc ?_ ?_ _) | (with_reducible refine Below.drew ?_) | (with_reducible refine below_drewN ?_ _) | (with_reducible refine Below.setCell ?_ ?_ _) | (with_reducible refine below_step ?_ (by with_reducible assumption) ?_) | (with_reducible exact Nat.le_refl _) | omega | (simp; omega) | (simp; done)))⟩

set_option maxRecDepth 100000 in
set_option maxHeartbeats 1600000 in
theorem height_any (a : Option Addr) (n cap : Nat) (l : List SpV) (t : Int) (w : World) (hm : n ≤ 1000000) (hs : SlP w a n l) :
    Calls Try.prog 20 #[.slice a n cap, .int .i64 t] w fun e w' => e = .returned (.int .i64 (cntP l t)) ∧ Below w.heap.size w w' := by
  have HS := Lib.hid hs
  have HL := Lib.hid hs.1
  clear hs
  go_enter Try.func20, Try.ntmps20
  go_wp2_with fail
  go_loopw [5, 10] (fun u i wr => ∃ (k c : Nat), k ≤ n ∧ i = .int .i64 k ∧ u = .int .i64 c ∧ c ≤ k ∧ Hid ((onK l t k).length = c) ∧ Hid (Below w.heap.size w wr)) (fun _ i _ => n - (intOf i).toNat)
  case atStart => exact ⟨0, 0, Nat.zero_le _, rfl, rfl, Nat.le_refl _, rfl, Below.refl _ _⟩
  case round =>
    obtain ⟨k, c, hk, rfl, rfl, hck, hC, hB⟩ := hrel
    by_cases hlt : k < n
    · obtain ⟨f, u, b, off, hx, _, _, rfl, hb, c0, c1⟩ := (HS.out.below hB.out).get hlt
      have HFU : Hid (hasP l t k = (decide (f ≤ t) && decide (t < u))) := by
        show _ = _
        have e1 : frP l k = f := by unfold frP; rw [Int.toNat_natCast, hx.out]
        have e2 : unP l k = u := by unfold unP; rw [Int.toNat_natCast, hx.out]
        unfold hasP
        rw [e1, e2]
      have i1 : (0 : Int) ≤ (k : Int) := by omega
      have i2 : (k : Int) < (n : Int) := by omega
      have hsz := hB.out.size
      clear hx
      have hal : Below wr.heap.size wr (wr.alloc (.cells #[.int .i64 f, .int .i64 u] 36)) := by (repeat' (first | (with_reducible exact Below.refl _ _) | (with_reducible assumption) | (with_reducible exact Bw.out (by with_reducible assumption)) | (with_reducible refine bw_alloc ?_ _) | (with_reducible refine bw_step ?_ (by with_reducible assumption)) | (with_reducible refine Below.alloc ?_ ?_ _) | (with_reducible refine Below.drew ?_) | (with_reducible refine below_drewN ?_ _) | (with_reducible refine Below.setCell ?_ ?_ _) | (with_reducible refine below_step ?_ (by with_reducible assumption) ?_) | (with_reducible exact Nat.le_refl _) | omega | (simp; omega) | (simp; done)))
      have hB3 : Hid (Below w.heap.size w (wr.alloc (.cells #[.int .i64 f, .int .i64 u] 36))) := hB.out.trans (hal.mono hsz)
      by_cases h1 : f ≤ t
      · by_cases h2 : t < u
        · have HT : Hid ((onK l t (k + 1)).length = c + 1) := by
            show _ = _
            rw [onK_succ, HFU.out]
            simp [h1, h2]; exact hC.out
          go_wp2_with fail
          go_roundw
          case rel => exact ⟨k + 1, c + 1, by omega, by go_num, by go_num, by omega, HT.out, (hB3.out : Below _ _ _)⟩
          case measure => simp [intOf]; omega
        · have HT : Hid ((onK l t (k + 1)).length = c) := by
            show _ = _
            rw [onK_succ, HFU.out]
            simp [h1, h2]; exact hC.out
          go_wp2_with fail
          go_roundw
          case rel => exact ⟨k + 1, c, by omega, by go_num, rfl, by omega, HT.out, (hB3.out : Below _ _ _)⟩
          case measure => simp [intOf]; omega
      · have HT : Hid ((onK l t (k + 1)).length = c) := by
          show _ = _
          rw [onK_succ, HFU.out]
          simp [h1]; exact hC.out
        go_wp2_with fail
        go_roundw
        case rel => exact ⟨k + 1, c, by omega, by go_num, rfl, by omega, HT.out, (hB3.out : Below _ _ _)⟩
        case measure => simp [intOf]; omega
    · obtain rfl : n = k := by omega
      go_wp2_with fail
      go_ret
      exact ⟨ret_int (by rw [← hC.out]; unfold cntP onL; rw [HL.out]), hB.out⟩

end Go.Proofs.Ytbafhmlmibjgpaa
