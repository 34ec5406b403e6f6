/-
  The walks of the reference implementation of shares: SameInts, Same, Shares, Night, Valid.
-/
import Derived.Test.YtijbhdpaikajkaaShareD
import Derived.Test.YtijbhdpaikajkaaShareB
namespace Go.Proofs.Ytijbhdpaikajkaa
set_option linter.unusedSimpArgs false
set_option linter.unusedVariables false
open Go.RowKit

theorem take_succ_getD {l : List Int} {k : Nat} (h : k < l.length) : l.take (k + 1) = l.take k ++ [l.getD k 0] := by
  rw [List.take_succ_eq_append_getElem h]; simp [List.getD, h]

set_option maxRecDepth 100000 in
set_option maxHeartbeats 1600000 in
theorem R_sameInts_q (a b : Option Addr) (n m cap cap2 : Nat) (zs ys : List Int) (w : World) (hn : n ≤ 9223372036854775807) (hm : m ≤ 9223372036854775807) (hs : SlI w a n zs) (ht : SlI w b m ys) :
    Calls Try.prog 16 #[.slice a n cap, .slice b m cap2] w fun e w' => e = .returned (.bool (decide (zs = ys))) ∧ ∃ q, w' = w.drewN q := by
  have l1 := Lib.hid hs.1
  have l2 := Lib.hid ht.1
  have HS := Lib.hid hs
  have HT := Lib.hid ht
  clear hs ht
  by_cases hnm : n = m
  · subst hnm
    obtain ⟨R, hR⟩ : ∃ R, decide (zs = ys) = R := ⟨_, rfl⟩
    rw [hR]
    have HR := Lib.hid hR
    clear hR
    go_enter Try.func16, Try.ntmps16
    go_wp2_with fail
    go_loopw [5] (fun i wr => ∃ k : Nat, k ≤ n ∧ i = .int .i64 k ∧ Hid (zs.take k = ys.take k) ∧ Hid (∃ q, wr = w.drewN q)) (fun i _ => n - (intOf i).toNat)
    case atStart => exact ⟨0, Nat.zero_le _, rfl, by show _ = _; simp, 0, rfl⟩
    case round =>
      obtain ⟨k, hk, rfl, hT, hq⟩ := hrel
      obtain ⟨q, hq⟩ := hq.out
      subst hq
      by_cases hlt : k < n
      · obtain ⟨b1, o1, x, e1, _, c1, g1, _, _⟩ := HS.out.get hlt
        obtain ⟨b2, o2, y, e2, _, c2, g2, _, _⟩ := HT.out.get hlt
        subst e1 e2
        have i1 : (0 : Int) ≤ (k : Int) := by omega
        have i2 : (k : Int) < (n : Int) := by omega
        by_cases hxy : x = y
        · subst hxy
          go_wp2_with fail
          go_quiet (fail)
          go_wp2_with fail
          go_roundw
          case rel => exact ⟨k + 1, by omega, by go_num, by show _ = _; rw [take_succ_getD (by rw [l1.out]; exact hlt), take_succ_getD (by rw [l2.out]; exact hlt), hT.out, g1.out, g2.out], _, rfl⟩
          case measure => simp [intOf]; omega
        · have hb : (x != y) = true := by simpa using hxy
          have hr : R = false := by
            rw [← HR.out]; simp; intro h; rw [h] at g1; exact hxy (g1.out.symm.trans g2.out)
          subst hr
          clear hxy
          go_wp2_with fail
          go_quiet (fail)
          go_wp2_with fail
          go_ret
          exact ⟨rfl, _, by first | rfl | exact World.drewN_drewN _ _ _⟩
      · obtain rfl : n = k := by omega
        have hr : R = true := by
          rw [← HR.out]; simp
          have := hT.out
          rwa [List.take_of_length_le (by rw [l1.out]; omega), List.take_of_length_le (by rw [l2.out]; omega)] at this
        subst hr
        go_wp2_with fail
        go_ret
        exact ⟨rfl, q, rfl⟩
  · have hr : decide (zs = ys) = false := by
      simp; intro h; apply hnm; rw [← l1.out, ← l2.out, h]
    rw [hr]
    clear hr
    have hb : ((n : Int) != (m : Int)) = true := by simp; omega
    have hb2 : (n != m) = true := by simp; omega
    clear hnm
    go_enter Try.func16, Try.ntmps16
    go_wp2_with fail
    go_ret
    exact ⟨rfl, 0, rfl⟩

theorem R_sameInts (v u : Value) (zs ys : List Int) (w : World) (hs : SlV w v zs) (ht : SlV w u ys) :
    Calls Try.prog 16 #[v, u] w fun e w' => e = .returned (.bool (decide (zs = ys))) ∧ Below w.heap.size w w' := by
  obtain ⟨a, c, rfl, h1, h2, h3⟩ := hs
  obtain ⟨b, d, rfl, g1, g2, g3⟩ := ht
  unfold maxLen at h3 g3
  refine (R_sameInts_q a b _ _ c d zs ys w (by omega) (by omega) h1 g1).mono ?_
  rintro e w' ⟨he, q, rfl⟩
  exact ⟨he, below_drewN (Below.refl _ _) q⟩

def sameB (r1 s1 : Int) (zs : List Int) (r2 s2 : Int) (ys : List Int) : Bool := decide (r1 = r2) && (decide (s1 = s2) && decide (zs = ys))

set_option maxRecDepth 100000 in
set_option maxHeartbeats 1600000 in
theorem R_same (r1 s1 r2 s2 : Int) (v u : Value) (zs ys : List Int) (w : World) (hs : SlV w v zs) (ht : SlV w u ys) :
    Calls Try.prog 28 #[.agg #[.int .i64 r1, .int .i64 s1, v], .agg #[.int .i64 r2, .int .i64 s2, u]] w fun e w' => e = .returned (.bool (sameB r1 s1 zs r2 s2 ys)) ∧ Below w.heap.size w w' := by
  have HS := Lib.hid hs
  have HT := Lib.hid ht
  obtain ⟨a, c, rfl, _⟩ := hs
  obtain ⟨b, d, rfl, _⟩ := ht
  unfold sameB
  by_cases h1 : r1 = r2
  · subst h1
    by_cases h2 : s1 = s2
    · subst h2
      simp only [decide_true, Bool.true_and]
      go_enter Try.func28, Try.ntmps28
      go_wp2_with fail
      refine (R_sameInts _ _ zs ys _ (HS.out.step (by (repeat' (first | (with_reducible exact Below.refl _ _) | (with_reducible assumption) | (with_reducible exact Bw.out (by with_reducible assumption)) | (with_reducible refine bw_alloc ?_ _) | (with_reducible refine bw_step ?_ (by with_reducible assumption)) | (with_reducible refine Below.alloc ?_ ?_ _) | (with_reducible refine Below.drew ?_) | (with_reducible refine below_drewN ?_ _) | (with_reducible refine Below.setCell ?_ ?_ _) | (with_reducible refine below_step ?_ (by with_reducible assumption) ?_) | (with_reducible exact Nat.le_refl _) | omega | (simp; omega) | (simp; done))))) (HT.out.step (by (repeat' (first | (with_reducible exact Below.refl _ _) | (with_reducible assumption) | (with_reducible exact Bw.out (by with_reducible assumption)) | (with_reducible refine bw_alloc ?_ _) | (with_reducible refine bw_step ?_ (by with_reducible assumption)) | (with_reducible refine Below.alloc ?_ ?_ _) | (with_reducible refine Below.drew ?_) | (with_reducible refine below_drewN ?_ _) | (with_reducible refine Below.setCell ?_ ?_ _) | (with_reducible refine below_step ?_ (by with_reducible assumption) ?_) | (with_reducible exact Nat.le_refl _) | omega | (simp; omega) | (simp; done)))))).mono ?_
      rintro e w1 ⟨rfl, hb1⟩
      have HB1 : Below w.heap.size w w1 := by (repeat' (first | (with_reducible exact Below.refl _ _) | (with_reducible assumption) | (with_reducible exact Bw.out (by with_reducible assumption)) | (with_reducible refine bw_alloc ?_ _) | (with_reducible refine bw_step ?_ (by with_reducible assumption)) | (with_reducible refine Below.alloc ?_ ?_ _) | (with_reducible refine Below.drew ?_) | (with_reducible refine below_drewN ?_ _) | (with_reducible refine Below.setCell ?_ ?_ _) | (with_reducible refine below_step ?_ (by with_reducible assumption) ?_) | (with_reducible exact Nat.le_refl _) | omega | (simp; omega) | (simp; done)))
      go_wp2_with fail
      go_ret
      refine ⟨rfl, ?_⟩
      (repeat' (first | (with_reducible exact Below.refl _ _) | (with_reducible assumption) | (with_reducible exact Bw.out (by with_reducible assumption)) | (with_reducible refine bw_alloc ?_ _) | (with_reducible refine bw_step ?_ (by with_reducible assumption)) | (with_reducible refine Below.alloc ?_ ?_ _) | (with_reducible refine Below.drew ?_) | (with_reducible refine below_drewN ?_ _) | (with_reducible refine Below.setCell ?_ ?_ _) | (with_reducible refine below_step ?_ (by with_reducible assumption) ?_) | (with_reducible exact Nat.le_refl _) | omega | (simp; omega) | (simp; done)))
    · have hb : (s1 == s2) = false := by simpa using h2
      rw [show decide (s1 = s2) = false by simpa using h2, Bool.false_and, Bool.and_false]
      clear h2
      go_enter Try.func28, Try.ntmps28
      go_wp2_with fail
      go_ret
      refine ⟨rfl, ?_⟩
      (repeat' (first | (with_reducible exact Below.refl _ _) | (with_reducible assumption) | (with_reducible exact Bw.out (by with_reducible assumption)) | (with_reducible refine bw_alloc ?_ _) | (with_reducible refine bw_step ?_ (by with_reducible assumption)) | (with_reducible refine Below.alloc ?_ ?_ _) | (with_reducible refine Below.drew ?_) | (with_reducible refine below_drewN ?_ _) | (with_reducible refine Below.setCell ?_ ?_ _) | (with_reducible refine below_step ?_ (by with_reducible assumption) ?_) | (with_reducible exact Nat.le_refl _) | omega | (simp; omega) | (simp; done)))
  · have hb : (r1 == r2) = false := by simpa using h1
    rw [show decide (r1 = r2) = false by simpa using h1, Bool.false_and]
    clear h1
    go_enter Try.func28, Try.ntmps28
    go_wp2_with fail
    go_ret
    refine ⟨rfl, ?_⟩
    (repeat' (first | (with_reducible exact Below.refl _ _) | (with_reducible assumption) | (with_reducible exact Bw.out (by with_reducible assumption)) | (with_reducible refine bw_alloc ?_ _) | (with_reducible refine bw_step ?_ (by with_reducible assumption)) | (with_reducible refine Below.alloc ?_ ?_ _) | (with_reducible refine Below.drew ?_) | (with_reducible refine below_drewN ?_ _) | (with_reducible refine Below.setCell ?_ ?_ _) | (with_reducible refine below_step ?_ (by with_reducible assumption) ?_) | (with_reducible exact Nat.le_refl _) | omega | (simp; omega) | (simp; done)))

theorem any_take_succ {p : Int → Bool} {l : List Int} {k : Nat} (h : k < l.length) : (l.take (k + 1)).any p = ((l.take k).any p || p (l.getD k 0)) := by
  rw [take_succ_getD h]; simp

set_option maxRecDepth 100000 in
set_option maxHeartbeats 1600000 in
theorem R_shares_any (a : Option Addr) (n cap : Nat) (zs : List Int) (w : World) (hm : n ≤ 9223372036854775807) (hs : SlI w a n zs) :
    Calls Try.prog 50 #[.slice a n cap] w fun e w' => e = .returned (.bool (sharesB zs)) ∧ w = w' := by
  obtain ⟨R, hR⟩ : ∃ R, sharesB zs = R := ⟨_, rfl⟩
  rw [hR]
  have HR := Lib.hid hR
  have l1 := Lib.hid hs.1
  have HS := Lib.hid hs
  clear hR hs
  go_enter Try.func50, Try.ntmps50
  go_wp2_with fail
  go_loop [3] (fun i => ∃ k : Nat, k ≤ n ∧ i = .int .i64 k ∧ Hid ((zs.take k).any (outB 400) = false)) (fun i => n - (intOf i).toNat)
  case atStart => exact ⟨0, Nat.zero_le _, rfl, by show _ = _; simp⟩
  case round =>
    obtain ⟨k, hk, rfl, hT⟩ := hrel
    by_cases hlt : k < n
    · obtain ⟨b1, o1, x, e1, _, c1, g1, _, g2⟩ := HS.out.get hlt
      subst e1
      by_cases hx : 0 ≤ x ∧ x ≤ 400
      · obtain ⟨x1, x2⟩ := hx
        go_wp2_with fail
        go_round
        case rel => exact ⟨k + 1, by omega, by go_num, by show _ = _; rw [any_take_succ (by rw [l1.out]; exact hlt), hT.out, g1.out, outB_false ⟨x1, x2⟩]; rfl⟩
        case measure => simp [intOf]; omega
      · have hr : R = false := by
          rw [← HR.out]; unfold sharesB
          rw [show zs.any (outB 400) = true from List.any_eq_true.2 ⟨x, g2.out, outB_true hx⟩]
          simp
        subst hr
        have hx' : x < 0 ∨ (0 ≤ x ∧ 400 < x) := by omega
        clear hx
        rcases hx' with hx | ⟨hx, hx2⟩
        all_goals
          go_wp2_with fail
          go_ret
          exact ⟨rfl, rfl⟩
    · obtain rfl : n = k := by omega
      have hr : R = decide ((n : Int) ≤ 30) := by
        rw [← HR.out]; unfold sharesB
        have := hT.out
        rw [List.take_of_length_le (by rw [l1.out]; omega)] at this
        rw [this, l1.out]
        simp
        omega
      subst hr
      go_wp2_with fail
      all_goals
        go_ret
        exact ⟨by first | rfl | (exact ret_bool (by first | rfl | (simp; done) | (simp; omega))), rfl⟩

set_option maxRecDepth 100000 in
set_option maxHeartbeats 1600000 in
theorem R_night_any (rooms sold : Int) (a : Option Addr) (n cap : Nat) (zs : List Int) (w : World) (hm : n ≤ 9223372036854775807) (hs : SlI w a n zs) :
    Calls Try.prog 29 #[.agg #[.int .i64 rooms, .int .i64 sold, .slice a n cap]] w fun e w' => e = .returned (.bool (nightB rooms sold zs)) ∧ Below w.heap.size w w' := by
  have HS := Lib.hid hs
  clear hs
  unfold nightB
  cases hb : sharesB zs with
  | false =>
    simp only [Bool.false_and]
    go_enter Try.func29, Try.ntmps29
    go_wp2_with (go_at_call 50; refine (R_shares_any _ _ _ zs _ hm (HS.out.below (by (repeat' (first | (with_reducible exact Below.refl _ _) | (with_reducible assumption) | (with_reducible exact Bw.out (by with_reducible assumption)) | (with_reducible refine bw_alloc ?_ _) | (with_reducible refine bw_step ?_ (by with_reducible assumption)) | (with_reducible refine Below.alloc ?_ ?_ _) | (with_reducible refine Below.drew ?_) | (with_reducible refine below_drewN ?_ _) | (with_reducible refine Below.setCell ?_ ?_ _) | (with_reducible refine below_step ?_ (by with_reducible assumption) ?_) | (with_reducible exact Nat.le_refl _) | omega | (simp; omega) | (simp; done)))))).mono ?_; rintro e w' ⟨rfl, rfl⟩)
    go_ret
    refine ⟨(by first | rfl | exact ret_bool (by first | rfl | (simp; done) | (simp; omega))), ?_⟩
    (repeat' (first | (with_reducible exact Below.refl _ _) | (with_reducible assumption) | (with_reducible exact Bw.out (by with_reducible assumption)) | (with_reducible refine bw_alloc ?_ _) | (with_reducible refine bw_step ?_ (by with_reducible assumption)) | (with_reducible refine Below.alloc ?_ ?_ _) | (with_reducible refine Below.drew ?_) | (with_reducible refine below_drewN ?_ _) | (with_reducible refine Below.setCell ?_ ?_ _) | (with_reducible refine below_step ?_ (by with_reducible assumption) ?_) | (with_reducible exact Nat.le_refl _) | omega | (simp; omega) | (simp; done)))
  | true =>
    simp only [Bool.true_and]
    by_cases h1 : 0 ≤ rooms ∧ rooms ≤ 400
    · rw [outB_false h1]
      obtain ⟨h1, h2⟩ := h1
      by_cases h3 : 0 ≤ sold ∧ sold ≤ 1000
      · rw [outB_false h3]
        obtain ⟨h3, h4⟩ := h3
        go_enter Try.func29, Try.ntmps29
        go_wp2_with (go_at_call 50; refine (R_shares_any _ _ _ zs _ hm (HS.out.below (by (repeat' (first | (with_reducible exact Below.refl _ _) | (with_reducible assumption) | (with_reducible exact Bw.out (by with_reducible assumption)) | (with_reducible refine bw_alloc ?_ _) | (with_reducible refine bw_step ?_ (by with_reducible assumption)) | (with_reducible refine Below.alloc ?_ ?_ _) | (with_reducible refine Below.drew ?_) | (with_reducible refine below_drewN ?_ _) | (with_reducible refine Below.setCell ?_ ?_ _) | (with_reducible refine below_step ?_ (by with_reducible assumption) ?_) | (with_reducible exact Nat.le_refl _) | omega | (simp; omega) | (simp; done)))))).mono ?_; rintro e w' ⟨rfl, rfl⟩)
        go_ret
        refine ⟨(by first | rfl | exact ret_bool (by first | rfl | (simp; done) | (simp; omega))), ?_⟩
        (repeat' (first | (with_reducible exact Below.refl _ _) | (with_reducible assumption) | (with_reducible exact Bw.out (by with_reducible assumption)) | (with_reducible refine bw_alloc ?_ _) | (with_reducible refine bw_step ?_ (by with_reducible assumption)) | (with_reducible refine Below.alloc ?_ ?_ _) | (with_reducible refine Below.drew ?_) | (with_reducible refine below_drewN ?_ _) | (with_reducible refine Below.setCell ?_ ?_ _) | (with_reducible refine below_step ?_ (by with_reducible assumption) ?_) | (with_reducible exact Nat.le_refl _) | omega | (simp; omega) | (simp; done)))
      · rw [outB_true h3]
        have h3' : sold < 0 ∨ (0 ≤ sold ∧ 1000 < sold) := by omega
        clear h3
        rcases h3' with h3 | ⟨h3, h4⟩
        ·
          go_enter Try.func29, Try.ntmps29
          go_wp2_with (go_at_call 50; refine (R_shares_any _ _ _ zs _ hm (HS.out.below (by (repeat' (first | (with_reducible exact Below.refl _ _) | (with_reducible assumption) | (with_reducible exact Bw.out (by with_reducible assumption)) | (with_reducible refine bw_alloc ?_ _) | (with_reducible refine bw_step ?_ (by with_reducible assumption)) | (with_reducible refine Below.alloc ?_ ?_ _) | (with_reducible refine Below.drew ?_) | (with_reducible refine below_drewN ?_ _) | (with_reducible refine Below.setCell ?_ ?_ _) | (with_reducible refine below_step ?_ (by with_reducible assumption) ?_) | (with_reducible exact Nat.le_refl _) | omega | (simp; omega) | (simp; done)))))).mono ?_; rintro e w' ⟨rfl, rfl⟩)
          go_ret
          refine ⟨(by first | rfl | exact ret_bool (by first | rfl | (simp; done) | (simp; omega))), ?_⟩
          (repeat' (first | (with_reducible exact Below.refl _ _) | (with_reducible assumption) | (with_reducible exact Bw.out (by with_reducible assumption)) | (with_reducible refine bw_alloc ?_ _) | (with_reducible refine bw_step ?_ (by with_reducible assumption)) | (with_reducible refine Below.alloc ?_ ?_ _) | (with_reducible refine Below.drew ?_) | (with_reducible refine below_drewN ?_ _) | (with_reducible refine Below.setCell ?_ ?_ _) | (with_reducible refine below_step ?_ (by with_reducible assumption) ?_) | (with_reducible exact Nat.le_refl _) | omega | (simp; omega) | (simp; done)))
        ·
          go_enter Try.func29, Try.ntmps29
          go_wp2_with (go_at_call 50; refine (R_shares_any _ _ _ zs _ hm (HS.out.below (by (repeat' (first | (with_reducible exact Below.refl _ _) | (with_reducible assumption) | (with_reducible exact Bw.out (by with_reducible assumption)) | (with_reducible refine bw_alloc ?_ _) | (with_reducible refine bw_step ?_ (by with_reducible assumption)) | (with_reducible refine Below.alloc ?_ ?_ _) | (with_reducible refine Below.drew ?_) | (with_reducible refine below_drewN ?_ _) | (with_reducible refine Below.setCell ?_ ?_ _) | (with_reducible refine below_step ?_ (by with_reducible assumption) ?_) | (with_reducible exact Nat.le_refl _) | omega | (simp; omega) | (simp; done)))))).mono ?_; rintro e w' ⟨rfl, rfl⟩)
          go_ret
          refine ⟨(by first | rfl | exact ret_bool (by first | rfl | (simp; done) | (simp; omega))), ?_⟩
          (repeat' (first | (with_reducible exact Below.refl _ _) | (with_reducible assumption) | (with_reducible exact Bw.out (by with_reducible assumption)) | (with_reducible refine bw_alloc ?_ _) | (with_reducible refine bw_step ?_ (by with_reducible assumption)) | (with_reducible refine Below.alloc ?_ ?_ _) | (with_reducible refine Below.drew ?_) | (with_reducible refine below_drewN ?_ _) | (with_reducible refine Below.setCell ?_ ?_ _) | (with_reducible refine below_step ?_ (by with_reducible assumption) ?_) | (with_reducible exact Nat.le_refl _) | omega | (simp; omega) | (simp; done)))
    · rw [outB_true h1]
      have h1' : rooms < 0 ∨ (0 ≤ rooms ∧ 400 < rooms) := by omega
      clear h1
      rcases h1' with h1 | ⟨h1, h2⟩
      ·
        go_enter Try.func29, Try.ntmps29
        go_wp2_with (go_at_call 50; refine (R_shares_any _ _ _ zs _ hm (HS.out.below (by (repeat' (first | (with_reducible exact Below.refl _ _) | (with_reducible assumption) | (with_reducible exact Bw.out (by with_reducible assumption)) | (with_reducible refine bw_alloc ?_ _) | (with_reducible refine bw_step ?_ (by with_reducible assumption)) | (with_reducible refine Below.alloc ?_ ?_ _) | (with_reducible refine Below.drew ?_) | (with_reducible refine below_drewN ?_ _) | (with_reducible refine Below.setCell ?_ ?_ _) | (with_reducible refine below_step ?_ (by with_reducible assumption) ?_) | (with_reducible exact Nat.le_refl _) | omega | (simp; omega) | (simp; done)))))).mono ?_; rintro e w' ⟨rfl, rfl⟩)
        go_ret
        refine ⟨(by first | rfl | exact ret_bool (by first | rfl | (simp; done) | (simp; omega))), ?_⟩
        (repeat' (first | (with_reducible exact Below.refl _ _) | (with_reducible assumption) | (with_reducible exact Bw.out (by with_reducible assumption)) | (with_reducible refine bw_alloc ?_ _) | (with_reducible refine bw_step ?_ (by with_reducible assumption)) | (with_reducible refine Below.alloc ?_ ?_ _) | (with_reducible refine Below.drew ?_) | (with_reducible refine below_drewN ?_ _) | (with_reducible refine Below.setCell ?_ ?_ _) | (with_reducible refine below_step ?_ (by with_reducible assumption) ?_) | (with_reducible exact Nat.le_refl _) | omega | (simp; omega) | (simp; done)))
      ·
        go_enter Try.func29, Try.ntmps29
        go_wp2_with (go_at_call 50; refine (R_shares_any _ _ _ zs _ hm (HS.out.below (by (repeat' (first | (with_reducible exact Below.refl _ _) | (with_reducible assumption) | (with_reducible exact Bw.out (by with_reducible assumption)) | (with_reducible refine bw_alloc ?_ _) | (with_reducible refine bw_step ?_ (by with_reducible assumption)) | (with_reducible refine Below.alloc ?_ ?_ _) | (with_reducible refine Below.drew ?_) | (with_reducible refine below_drewN ?_ _) | (with_reducible refine Below.setCell ?_ ?_ _) | (with_reducible refine below_step ?_ (by with_reducible assumption) ?_) | (with_reducible exact Nat.le_refl _) | omega | (simp; omega) | (simp; done)))))).mono ?_; rintro e w' ⟨rfl, rfl⟩)
        go_ret
        refine ⟨(by first | rfl | exact ret_bool (by first | rfl | (simp; done) | (simp; omega))), ?_⟩
        (repeat' (first | (with_reducible exact Below.refl _ _) | (with_reducible assumption) | (with_reducible exact Bw.out (by with_reducible assumption)) | (with_reducible refine bw_alloc ?_ _) | (with_reducible refine bw_step ?_ (by with_reducible assumption)) | (with_reducible refine Below.alloc ?_ ?_ _) | (with_reducible refine Below.drew ?_) | (with_reducible refine below_drewN ?_ _) | (with_reducible refine Below.setCell ?_ ?_ _) | (with_reducible refine below_step ?_ (by with_reducible assumption) ?_) | (with_reducible exact Nat.le_refl _) | omega | (simp; omega) | (simp; done)))

end Go.Proofs.Ytijbhdpaikajkaa
