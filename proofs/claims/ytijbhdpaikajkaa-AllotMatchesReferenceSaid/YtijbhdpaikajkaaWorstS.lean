/-
  The walks of the reference implementation of worst, second part: SameInts (as package worst's law names it), Same, and the law's usable.
-/
import Derived.Test.YtijbhdpaikajkaaWorstR
import Derived.Test.YtijbhdpaikajkaaPromB
namespace Go.Proofs.Ytijbhdpaikajkaa
set_option linter.unusedSimpArgs false
set_option linter.unusedVariables false
open Go.RowKit

set_option maxRecDepth 100000 in
set_option maxHeartbeats 1600000 in
theorem R02_sameInts_q (a b : Option Addr) (n m cap cap2 : Nat) (zs ys : List Int) (w : World) (hn : n ≤ 9223372036854775807) (hm : m ≤ 9223372036854775807) (hs : SlI w a n zs) (ht : SlI w b m ys) :
    Calls Try.prog 38 #[.slice a n cap, .slice b m cap2] w fun e w' => e = .returned (.bool (decide (zs = ys))) ∧ ∃ q, w' = w.drewN q := by
  have l1 := Lib.hid hs.1
  have l2 := Lib.hid ht.1
  have HS := Lib.hid hs
  have HT := Lib.hid ht
  clear hs ht
  by_cases hnm : n = m
  · subst hnm
    obtain ⟨R, hR⟩ : ∃ R, decide (zs = ys) = R := ⟨_, rfl⟩
    rw [hR]
    have HR := Lib.hid hR
    clear hR
    go_enter Try.func38, Try.ntmps38
    go_wp2_with fail
    go_loopw [5] (fun i wr => ∃ k : Nat, k ≤ n ∧ i = .int .i64 k ∧ Hid (zs.take k = ys.take k) ∧ Hid (∃ q, wr = w.drewN q)) (fun i _ => n - (intOf i).toNat)
    case atStart => exact ⟨0, Nat.zero_le _, rfl, by show _ = _; simp, 0, rfl⟩
    case round =>
      obtain ⟨k, hk, rfl, hT, hq⟩ := hrel
      obtain ⟨q, hq⟩ := hq.out
      subst hq
      by_cases hlt : k < n
      · obtain ⟨b1, o1, x, e1, _, c1, g1, _, _⟩ := HS.out.get hlt
        obtain ⟨b2, o2, y, e2, _, c2, g2, _, _⟩ := HT.out.get hlt
        subst e1 e2
        have i1 : (0 : Int) ≤ (k : Int) := by omega
        have i2 : (k : Int) < (n : Int) := by omega
        by_cases hxy : x = y
        · subst hxy
          go_wp2_with fail
          go_quiet (fail)
          go_wp2_with fail
          go_roundw
          case rel => exact ⟨k + 1, by omega, by go_num, by show _ = _; rw [take_succ_getD (by rw [l1.out]; exact hlt), take_succ_getD (by rw [l2.out]; exact hlt), hT.out, g1.out, g2.out], _, rfl⟩
          case measure => simp [intOf]; omega
        · have hb : (x != y) = true := by simpa using hxy
          have hr : R = false := by
            rw [← HR.out]; simp; intro h; rw [h] at g1; exact hxy (g1.out.symm.trans g2.out)
          subst hr
          clear hxy
          go_wp2_with fail
          go_quiet (fail)
          go_wp2_with fail
          go_ret
          exact ⟨rfl, _, by first | rfl | exact World.drewN_drewN _ _ _⟩
      · obtain rfl : n = k := by omega
        have hr : R = true := by
          rw [← HR.out]; simp
          have := hT.out
          rwa [List.take_of_length_le (by rw [l1.out]; omega), List.take_of_length_le (by rw [l2.out]; omega)] at this
        subst hr
        go_wp2_with fail
        go_ret
        exact ⟨rfl, q, rfl⟩
  · have hr : decide (zs = ys) = false := by
      simp; intro h; apply hnm; rw [← l1.out, ← l2.out, h]
    rw [hr]
    clear hr
    have hb : ((n : Int) != (m : Int)) = true := by simp; omega
    have hb2 : (n != m) = true := by simp; omega
    clear hnm
    go_enter Try.func38, Try.ntmps38
    go_wp2_with fail
    go_ret
    exact ⟨rfl, 0, rfl⟩
theorem R02_sameInts_c (a b : Option Addr) (n m c d : Nat) (zs ys : List Int) (B : Bool) (w : World) (hs : SlC w a n c zs) (ht : SlC w b m d ys) (hn : n ≤ 1000000) (hm : m ≤ 1000000) (hB : decide (zs = ys) = B) :
    Calls Try.prog 38 #[.slice a n c, .slice b m d] w fun e w' => e = .returned (.bool B) ∧ Below w.heap.size w w' := by
  rw [← hB]
  refine (R02_sameInts_q a b n m c d zs ys w (by omega) (by omega) hs.sl ht.sl).mono ?_
  rintro e w' ⟨he, q, rfl⟩
  exact ⟨he, below_drewN (Below.refl _ _) q⟩

/-- Are two scenes equal? -/
def sameSc (n1 w1 : Int) (c1 s1 : List Int) (n2 w2 : Int) (c2 s2 : List Int) : Bool := decide (n1 = n2 ∧ w1 = w2 ∧ c1 = c2 ∧ s1 = s2)

set_option maxRecDepth 100000 in
set_option maxHeartbeats 6400000 in
theorem R_sameScene (n1 w1 n2 w2 : Int) (a b p q : Option Addr) (m1 k1 m2 k2 d1 d2 d3 d4 : Nat) (zc zs yc ys : List Int) (w : World) (hc : SlC w a m1 d1 zc) (hs : SlC w b k1 d2 zs) (hyc : SlC w p m2 d3 yc) (hys : SlC w q k2 d4 ys)
    (x1 : m1 ≤ 1000000) (x2 : k1 ≤ 1000000) (x3 : m2 ≤ 1000000) (x4 : k2 ≤ 1000000) (B : Bool) (hB : sameSc n1 w1 zc zs n2 w2 yc ys = B) :
    Calls Try.prog 22 #[.agg #[.int .i64 n1, .int .i64 w1, .slice a m1 d1, .slice b k1 d2], .agg #[.int .i64 n2, .int .i64 w2, .slice p m2 d3, .slice q k2 d4]] w
      fun e w' => e = .returned (.bool B) ∧ Below w.heap.size w w' := by
  rw [← hB]
  clear hB
  have L1 := Lib.hid hc.1
  have L2 := Lib.hid hs.1
  have L3 := Lib.hid hyc.1
  have L4 := Lib.hid hys.1
  by_cases h1 : n1 = n2
  · subst h1
    by_cases h2 : w1 = w2
    · subst h2
      by_cases h3 : m1 = m2
      · subst h3
        by_cases h4 : k1 = k2
        · subst h4
          obtain ⟨R, hR⟩ : ∃ R, sameSc n1 w1 zc zs n1 w1 yc ys = R := ⟨_, rfl⟩
          rw [hR]
          have HR := Lib.hid hR
          clear hR
          have KC := Lib.hid hc
          have KS := Lib.hid hs
          have KYC := Lib.hid hyc
          have KYS := Lib.hid hys
          clear hc hs hyc hys
          go_enter Try.func22, Try.ntmps22
          go_upto_region 4 with fail
          generalize hW0 : (w.alloc (.cells #[.int .i64 n1, .int .i64 w1, .slice a m1 d1, .slice b k1 d2] 37)).alloc (.cells #[.int .i64 n1, .int .i64 w1, .slice p m1 d3, .slice q k1 d4] 37) = w0
          have R1 : Row w0 w.heap.size [.int .i64 n1, .int .i64 w1, .slice a m1 d1, .slice b k1 d2] := by rw [← hW0]; (repeat' (first | (with_reducible assumption) | (with_reducible refine Row.new' _ _ _ (by first | rfl | (simp; done) | omega)) | (with_reducible refine Row.alloc ?_ _) | (with_reducible refine Row.drew ?_) | (with_reducible refine Row.drewN ?_ _) | (with_reducible refine Row.step ?_ (by with_reducible assumption))))
          have R2 : Row w0 (w.heap.size + 1) [.int .i64 n1, .int .i64 w1, .slice p m1 d3, .slice q k1 d4] := by rw [← hW0]; (repeat' (first | (with_reducible assumption) | (with_reducible refine Row.new' _ _ _ (by first | rfl | (simp; done) | omega)) | (with_reducible refine Row.alloc ?_ _) | (with_reducible refine Row.drew ?_) | (with_reducible refine Row.drewN ?_ _) | (with_reducible refine Row.step ?_ (by with_reducible assumption))))
          have HB0 : Hid (Below w.heap.size w w0) := by show Below _ _ _; rw [← hW0]; (repeat' (first | (with_reducible exact Below.refl _ _) | (with_reducible assumption) | (with_reducible exact Bw.out (by with_reducible assumption)) | (with_reducible refine bw_alloc ?_ _) | (with_reducible refine bw_step ?_ (by with_reducible assumption)) | (with_reducible refine Below.alloc ?_ ?_ _) | (with_reducible refine Below.drew ?_) | (with_reducible refine below_drewN ?_ _) | (with_reducible refine Below.setCell ?_ ?_ _) | (with_reducible refine below_step ?_ (by with_reducible assumption) ?_) | (with_reducible exact Nat.le_refl _) | omega | (simp; omega) | (simp; done)))
          clear hW0
          have JC := Lib.hid (KC.out.step HB0.out).sl
          have JS := Lib.hid (KS.out.step HB0.out).sl
          have JYC := Lib.hid (KYC.out.step HB0.out).sl
          have JYS := Lib.hid (KYS.out.step HB0.out).sl
          have c2 := R1.cell 2 rfl
          have c3 := R1.cell 3 rfl
          have z2 := R2.cell 2 rfl
          have z3 := R2.cell 3 rfl
          go_loopw [5] (fun i wr => ∃ k : Nat, k ≤ m1 ∧ i = .int .i64 k ∧ Hid (zc.take k = yc.take k) ∧ Hid (∃ q, wr = w0.drewN q)) (fun i _ => m1 - (intOf i).toNat)
          case atStart => exact ⟨0, Nat.zero_le _, rfl, by show _ = _; simp, 0, rfl⟩
          case round =>
            obtain ⟨k, hk, rfl, hT, hq⟩ := hrel
            obtain ⟨q1, hq⟩ := hq.out
            subst hq
            by_cases hlt : k < m1
            · obtain ⟨b1, o1, x, e1, _, e5, g1, _, _⟩ := JC.out.get hlt
              obtain ⟨b2, o2, y, e2, _, e6, g2, _, _⟩ := JYC.out.get hlt
              subst e1 e2
              have i1 : (0 : Int) ≤ (k : Int) := by omega
              have i2 : (k : Int) < (m1 : Int) := by omega
              by_cases hxy : x = y
              · subst hxy
                go_wp2_with fail
                go_quiet (fail)
                go_wp2_with fail
                go_roundw
                case rel => exact ⟨k + 1, by omega, by go_num, by show _ = _; rw [take_succ_getD (by rw [L1.out]; exact hlt), take_succ_getD (by rw [L3.out]; exact hlt), hT.out, g1.out, g2.out], _, rfl⟩
                case measure => simp [intOf]; omega
              · have hb : (x != y) = true := by simpa using hxy
                have hr : R = false := by
                  rw [← HR.out]
                  unfold sameSc
                  simp only [decide_eq_false_iff_not]
                  rintro ⟨_, _, e3, _⟩
                  rw [e3] at g1; exact hxy (g1.out.symm.trans g2.out)
                subst hr
                clear hxy
                go_wp2_with fail
                go_quiet (fail)
                go_wp2_with fail
                go_ret
                refine ⟨rfl, ?_⟩
                have := HB0.out
                (repeat' (first | (with_reducible exact Below.refl _ _) | (with_reducible assumption) | (with_reducible exact Bw.out (by with_reducible assumption)) | (with_reducible refine bw_alloc ?_ _) | (with_reducible refine bw_step ?_ (by with_reducible assumption)) | (with_reducible refine Below.alloc ?_ ?_ _) | (with_reducible refine Below.drew ?_) | (with_reducible refine below_drewN ?_ _) | (with_reducible refine Below.setCell ?_ ?_ _) | (with_reducible refine below_step ?_ (by with_reducible assumption) ?_) | (with_reducible exact Nat.le_refl _) | omega | (simp; omega) | (simp; done)))
            · obtain rfl : m1 = k := by omega
              have hce : Hid (zc = yc) := by
                have := hT.out
                rwa [List.take_of_length_le (by rw [L1.out]; omega), List.take_of_length_le (by rw [L3.out]; omega)] at this
              clear hT
              go_upto_region 9 with fail
              go_loopw [6] (fun i wr => ∃ k : Nat, k ≤ k1 ∧ i = .int .i64 k ∧ Hid (zs.take k = ys.take k) ∧ Hid (∃ q, wr = w0.drewN q)) (fun i _ => k1 - (intOf i).toNat)
              case atStart => exact ⟨0, Nat.zero_le _, rfl, by show _ = _; simp, q1, rfl⟩
              case round =>
                obtain ⟨k, hk, rfl, hT, hq⟩ := hrel
                obtain ⟨q2, hq⟩ := hq.out
                subst hq
                by_cases hlt : k < k1
                · obtain ⟨b1, o1, x, e1, _, e5, g1, _, _⟩ := JS.out.get hlt
                  obtain ⟨b2, o2, y, e2, _, e6, g2, _, _⟩ := JYS.out.get hlt
                  subst e1 e2
                  have i1 : (0 : Int) ≤ (k : Int) := by omega
                  have i2 : (k : Int) < (k1 : Int) := by omega
                  by_cases hxy : x = y
                  · subst hxy
                    go_wp2_with fail
                    go_quiet (fail)
                    go_wp2_with fail
                    go_roundw
                    case rel => exact ⟨k + 1, by omega, by go_num, by show _ = _; rw [take_succ_getD (by rw [L2.out]; exact hlt), take_succ_getD (by rw [L4.out]; exact hlt), hT.out, g1.out, g2.out], _, rfl⟩
                    case measure => simp [intOf]; omega
                  · have hb : (x != y) = true := by simpa using hxy
                    have hr : R = false := by
                      rw [← HR.out]
                      unfold sameSc
                      simp only [decide_eq_false_iff_not]
                      rintro ⟨_, _, _, e3⟩
                      rw [e3] at g1; exact hxy (g1.out.symm.trans g2.out)
                    subst hr
                    clear hxy
                    go_wp2_with fail
                    go_quiet (fail)
                    go_wp2_with fail
                    go_ret
                    refine ⟨rfl, ?_⟩
                    have := HB0.out
                    (repeat' (first | (with_reducible exact Below.refl _ _) | (with_reducible assumption) | (with_reducible exact Bw.out (by with_reducible assumption)) | (with_reducible refine bw_alloc ?_ _) | (with_reducible refine bw_step ?_ (by with_reducible assumption)) | (with_reducible refine Below.alloc ?_ ?_ _) | (with_reducible refine Below.drew ?_) | (with_reducible refine below_drewN ?_ _) | (with_reducible refine Below.setCell ?_ ?_ _) | (with_reducible refine below_step ?_ (by with_reducible assumption) ?_) | (with_reducible exact Nat.le_refl _) | omega | (simp; omega) | (simp; done)))
                · obtain rfl : k1 = k := by omega
                  have hr : R = true := by
                    rw [← HR.out]
                    unfold sameSc
                    have := hT.out
                    rw [List.take_of_length_le (by rw [L2.out]; omega), List.take_of_length_le (by rw [L4.out]; omega)] at this
                    simp [hce.out, this]
                  subst hr
                  go_wp2_with fail
                  go_ret
                  refine ⟨rfl, ?_⟩
                  have := HB0.out
                  (repeat' (first | (with_reducible exact Below.refl _ _) | (with_reducible assumption) | (with_reducible exact Bw.out (by with_reducible assumption)) | (with_reducible refine bw_alloc ?_ _) | (with_reducible refine bw_step ?_ (by with_reducible assumption)) | (with_reducible refine Below.alloc ?_ ?_ _) | (with_reducible refine Below.drew ?_) | (with_reducible refine below_drewN ?_ _) | (with_reducible refine Below.setCell ?_ ?_ _) | (with_reducible refine below_step ?_ (by with_reducible assumption) ?_) | (with_reducible exact Nat.le_refl _) | omega | (simp; omega) | (simp; done)))
        · have hb : ((k1 : Int) != (k2 : Int)) = true := by simp; omega
          have hb2 : (k1 != k2) = true := by simp; omega
          have hb3 : ((m1 : Int) != (m1 : Int)) = false := by simp
          have hr : sameSc n1 w1 zc zs n1 w1 yc ys = false := by
            unfold sameSc
            simp only [decide_eq_false_iff_not]
            rintro ⟨e1, e2, e3, e4⟩
            exact h4 (by rw [← L2.out, ← L4.out, e4])
          rw [hr]
          clear hr h4
          go_enter Try.func22, Try.ntmps22
          go_wp2_with fail
          go_ret
          refine ⟨rfl, ?_⟩
          (repeat' (first | (with_reducible exact Below.refl _ _) | (with_reducible assumption) | (with_reducible exact Bw.out (by with_reducible assumption)) | (with_reducible refine bw_alloc ?_ _) | (with_reducible refine bw_step ?_ (by with_reducible assumption)) | (with_reducible refine Below.alloc ?_ ?_ _) | (with_reducible refine Below.drew ?_) | (with_reducible refine below_drewN ?_ _) | (with_reducible refine Below.setCell ?_ ?_ _) | (with_reducible refine below_step ?_ (by with_reducible assumption) ?_) | (with_reducible exact Nat.le_refl _) | omega | (simp; omega) | (simp; done)))
      · have hb : ((m1 : Int) != (m2 : Int)) = true := by simp; omega
        have hb2 : (m1 != m2) = true := by simp; omega
        have hr : sameSc n1 w1 zc zs n1 w1 yc ys = false := by
          unfold sameSc
          simp only [decide_eq_false_iff_not]
          rintro ⟨e1, e2, e3, e4⟩
          exact h3 (by rw [← L1.out, ← L3.out, e3])
        rw [hr]
        clear hr h3
        go_enter Try.func22, Try.ntmps22
        go_wp2_with fail
        go_ret
        refine ⟨rfl, ?_⟩
        (repeat' (first | (with_reducible exact Below.refl _ _) | (with_reducible assumption) | (with_reducible exact Bw.out (by with_reducible assumption)) | (with_reducible refine bw_alloc ?_ _) | (with_reducible refine bw_step ?_ (by with_reducible assumption)) | (with_reducible refine Below.alloc ?_ ?_ _) | (with_reducible refine Below.drew ?_) | (with_reducible refine below_drewN ?_ _) | (with_reducible refine Below.setCell ?_ ?_ _) | (with_reducible refine below_step ?_ (by with_reducible assumption) ?_) | (with_reducible exact Nat.le_refl _) | omega | (simp; omega) | (simp; done)))
    · have hb : (w1 != w2) = true := by simpa using h2
      have hr : sameSc n1 w1 zc zs n1 w2 yc ys = false := by
        unfold sameSc
        simp only [decide_eq_false_iff_not]
        rintro ⟨e1, e2, e3, e4⟩
        exact h2 e2
      rw [hr]
      clear hr h2
      go_enter Try.func22, Try.ntmps22
      go_wp2_with fail
      go_ret
      refine ⟨rfl, ?_⟩
      (repeat' (first | (with_reducible exact Below.refl _ _) | (with_reducible assumption) | (with_reducible exact Bw.out (by with_reducible assumption)) | (with_reducible refine bw_alloc ?_ _) | (with_reducible refine bw_step ?_ (by with_reducible assumption)) | (with_reducible refine Below.alloc ?_ ?_ _) | (with_reducible refine Below.drew ?_) | (with_reducible refine below_drewN ?_ _) | (with_reducible refine Below.setCell ?_ ?_ _) | (with_reducible refine below_step ?_ (by with_reducible assumption) ?_) | (with_reducible exact Nat.le_refl _) | omega | (simp; omega) | (simp; done)))
  · have hb : (n1 != n2) = true := by simpa using h1
    have hr : sameSc n1 w1 zc zs n2 w2 yc ys = false := by
      unfold sameSc
      simp only [decide_eq_false_iff_not]
      rintro ⟨e1, e2, e3, e4⟩
      exact h1 e1
    rw [hr]
    clear hr h1
    go_enter Try.func22, Try.ntmps22
    go_wp2_with fail
    go_ret
    refine ⟨rfl, ?_⟩
    (repeat' (first | (with_reducible exact Below.refl _ _) | (with_reducible assumption) | (with_reducible exact Bw.out (by with_reducible assumption)) | (with_reducible refine bw_alloc ?_ _) | (with_reducible refine bw_step ?_ (by with_reducible assumption)) | (with_reducible refine Below.alloc ?_ ?_ _) | (with_reducible refine Below.drew ?_) | (with_reducible refine below_drewN ?_ _) | (with_reducible refine Below.setCell ?_ ?_ _) | (with_reducible refine below_step ?_ (by with_reducible assumption) ?_) | (with_reducible exact Nat.le_refl _) | omega | (simp; omega) | (simp; done)))

/-- Is the night, and the cut, what they must be, and not too large? -/
def usB (r s : Int) (zs : List Int) (c : Int) : Bool := nightB r s zs && inB c 30
theorem fewN_one (r s : Int) (a : Option Addr) (n cap : Nat) (zs : List Int) : fewN [nightOf r s a n cap zs] = decide (zs.length ≤ 40) := by
  unfold fewN
  simp [nightOf]
theorem usB_len {r s : Int} {zs : List Int} {c : Int} (h : usB r s zs c = true) : zs.length ≤ 30 := by
  unfold usB at h
  simp only [Bool.and_eq_true] at h
  exact (nightB_parts h.1).1

set_option maxRecDepth 100000 in
set_option maxHeartbeats 3200000 in
theorem usable_any (r s c : Int) (a : Option Addr) (n cap : Nat) (zs : List Int) (w : World) (K : SlC w a n cap zs) (hm : n ≤ 9223372036854775807) (B : Bool) (hB : usB r s zs c = B) :
    Calls Try.prog 41 #[.agg #[.int .i64 r, .int .i64 s, .slice a n cap], .int .i64 c] w fun e w' => e = .returned (.bool B) ∧ Below w.heap.size w w' := by
  have h1 := nightsB_one r s a n cap zs
  have h2 := fewN_one r s a n cap zs
  by_cases h40 : zs.length ≤ 40
  · rw [decide_eq_true h40] at h2
    have H2 := Lib.hid h2
    clear h2
    obtain ⟨V, hV⟩ : ∃ V, nightB r s zs = V := ⟨_, rfl⟩
    rw [hV] at h1
    have H1 := Lib.hid h1
    cases V with
    | true =>
      have hB' : inB c 30 = B := by rw [← hB]; unfold usB; rw [hV]; rfl
      have HB' := Lib.hid hB'
      clear hB hB' hV h1
      go_enter Try.func41, Try.ntmps41
      go_wp2_with fail
      refine (R_few_any _ _ _ [nightOf r s a n cap zs] _ (by omega) (one_night (by (repeat' (first | (with_reducible assumption) | (with_reducible refine Row.new' _ _ _ (by first | rfl | (simp; done) | omega)) | (with_reducible refine Row.alloc ?_ _) | (with_reducible refine Row.drew ?_) | (with_reducible refine Row.drewN ?_ _) | (with_reducible refine Row.step ?_ (by with_reducible assumption))))) hm (K.step (by (repeat' (first | (with_reducible exact Below.refl _ _) | (with_reducible assumption) | (with_reducible exact Bw.out (by with_reducible assumption)) | (with_reducible refine bw_alloc ?_ _) | (with_reducible refine bw_step ?_ (by with_reducible assumption)) | (with_reducible refine Below.alloc ?_ ?_ _) | (with_reducible refine Below.drew ?_) | (with_reducible refine below_drewN ?_ _) | (with_reducible refine Below.setCell ?_ ?_ _) | (with_reducible refine below_step ?_ (by with_reducible assumption) ?_) | (with_reducible exact Nat.le_refl _) | omega | (simp; omega) | (simp; done))))).sl) true H2.out).mono ?_
      rintro e w' ⟨rfl, rfl⟩
      go_wp2_with fail
      refine (R_valid_any _ _ _ [nightOf r s a n cap zs] _ (by omega) (one_night (by (repeat' (first | (with_reducible assumption) | (with_reducible refine Row.new' _ _ _ (by first | rfl | (simp; done) | omega)) | (with_reducible refine Row.alloc ?_ _) | (with_reducible refine Row.drew ?_) | (with_reducible refine Row.drewN ?_ _) | (with_reducible refine Row.step ?_ (by with_reducible assumption))))) hm (K.step (by (repeat' (first | (with_reducible exact Below.refl _ _) | (with_reducible assumption) | (with_reducible exact Bw.out (by with_reducible assumption)) | (with_reducible refine bw_alloc ?_ _) | (with_reducible refine bw_step ?_ (by with_reducible assumption)) | (with_reducible refine Below.alloc ?_ ?_ _) | (with_reducible refine Below.drew ?_) | (with_reducible refine below_drewN ?_ _) | (with_reducible refine Below.setCell ?_ ?_ _) | (with_reducible refine below_step ?_ (by with_reducible assumption) ?_) | (with_reducible exact Nat.le_refl _) | omega | (simp; omega) | (simp; done))))).sl) true H1.out).mono ?_
      rintro e w1 ⟨rfl, hb1⟩
      have R_n_1 : Row w1 (w.heap.size) [.int .i64 r, .int .i64 s, .slice a n cap] := by (repeat' (first | (with_reducible assumption) | (with_reducible refine Row.new' _ _ _ (by first | rfl | (simp; done) | omega)) | (with_reducible refine Row.alloc ?_ _) | (with_reducible refine Row.drew ?_) | (with_reducible refine Row.drewN ?_ _) | (with_reducible refine Row.step ?_ (by with_reducible assumption)) | (with_reducible refine Row.set2' ?_ _ _; first | exact ⟨_, _, by with_reducible assumption⟩ | exact ⟨_, _, Row.alloc (by with_reducible assumption) _⟩ | exact ⟨_, _, Row.alloc (Row.alloc (by with_reducible assumption) _) _⟩) | (with_reducible refine Row.other ?_ (by first | omega | (simp; done) | (simp; omega)) _)))
      have c_n_0_1 := R_n_1.cell 0 rfl
      have c_n_1_1 := R_n_1.cell 1 rfl
      have c_n_2_1 := R_n_1.cell 2 rfl
      have l_n_1 := R_n_1.lt
      replace K := K.step (show Below w.heap.size w w1 by (repeat' (first | (with_reducible exact Below.refl _ _) | (with_reducible assumption) | (with_reducible exact Bw.out (by with_reducible assumption)) | (with_reducible refine bw_alloc ?_ _) | (with_reducible refine bw_step ?_ (by with_reducible assumption)) | (with_reducible refine Below.alloc ?_ ?_ _) | (with_reducible refine Below.drew ?_) | (with_reducible refine below_drewN ?_ _) | (with_reducible refine Below.setCell ?_ ?_ _) | (with_reducible refine below_step ?_ (by with_reducible assumption) ?_) | (with_reducible exact Nat.le_refl _) | omega | (simp; omega) | (simp; done))))
      have HB1 : Below w.heap.size w w1 := by (repeat' (first | (with_reducible exact Below.refl _ _) | (with_reducible assumption) | (with_reducible exact Bw.out (by with_reducible assumption)) | (with_reducible refine bw_alloc ?_ _) | (with_reducible refine bw_step ?_ (by with_reducible assumption)) | (with_reducible refine Below.alloc ?_ ?_ _) | (with_reducible refine Below.drew ?_) | (with_reducible refine below_drewN ?_ _) | (with_reducible refine Below.setCell ?_ ?_ _) | (with_reducible refine below_step ?_ (by with_reducible assumption) ?_) | (with_reducible exact Nat.le_refl _) | omega | (simp; omega) | (simp; done)))
      go_wp2_with fail
      refine (R_Cut_any c _).mono ?_
      rintro e w' ⟨rfl, rfl⟩
      rw [HB'.out]
      go_wp2_with fail
      go_ret
      refine ⟨ret_bool (by simp), ?_⟩
      (repeat' (first | (with_reducible exact Below.refl _ _) | (with_reducible assumption) | (with_reducible exact Bw.out (by with_reducible assumption)) | (with_reducible refine bw_alloc ?_ _) | (with_reducible refine bw_step ?_ (by with_reducible assumption)) | (with_reducible refine Below.alloc ?_ ?_ _) | (with_reducible refine Below.drew ?_) | (with_reducible refine below_drewN ?_ _) | (with_reducible refine Below.setCell ?_ ?_ _) | (with_reducible refine below_step ?_ (by with_reducible assumption) ?_) | (with_reducible exact Nat.le_refl _) | omega | (simp; omega) | (simp; done)))
    | false =>
      have hB' : false = B := by rw [← hB]; unfold usB; rw [hV]; rfl
      subst hB'
      clear hB hV h1
      go_enter Try.func41, Try.ntmps41
      go_wp2_with fail
      refine (R_few_any _ _ _ [nightOf r s a n cap zs] _ (by omega) (one_night (by (repeat' (first | (with_reducible assumption) | (with_reducible refine Row.new' _ _ _ (by first | rfl | (simp; done) | omega)) | (with_reducible refine Row.alloc ?_ _) | (with_reducible refine Row.drew ?_) | (with_reducible refine Row.drewN ?_ _) | (with_reducible refine Row.step ?_ (by with_reducible assumption))))) hm (K.step (by (repeat' (first | (with_reducible exact Below.refl _ _) | (with_reducible assumption) | (with_reducible exact Bw.out (by with_reducible assumption)) | (with_reducible refine bw_alloc ?_ _) | (with_reducible refine bw_step ?_ (by with_reducible assumption)) | (with_reducible refine Below.alloc ?_ ?_ _) | (with_reducible refine Below.drew ?_) | (with_reducible refine below_drewN ?_ _) | (with_reducible refine Below.setCell ?_ ?_ _) | (with_reducible refine below_step ?_ (by with_reducible assumption) ?_) | (with_reducible exact Nat.le_refl _) | omega | (simp; omega) | (simp; done))))).sl) true H2.out).mono ?_
      rintro e w' ⟨rfl, rfl⟩
      go_wp2_with fail
      refine (R_valid_any _ _ _ [nightOf r s a n cap zs] _ (by omega) (one_night (by (repeat' (first | (with_reducible assumption) | (with_reducible refine Row.new' _ _ _ (by first | rfl | (simp; done) | omega)) | (with_reducible refine Row.alloc ?_ _) | (with_reducible refine Row.drew ?_) | (with_reducible refine Row.drewN ?_ _) | (with_reducible refine Row.step ?_ (by with_reducible assumption))))) hm (K.step (by (repeat' (first | (with_reducible exact Below.refl _ _) | (with_reducible assumption) | (with_reducible exact Bw.out (by with_reducible assumption)) | (with_reducible refine bw_alloc ?_ _) | (with_reducible refine bw_step ?_ (by with_reducible assumption)) | (with_reducible refine Below.alloc ?_ ?_ _) | (with_reducible refine Below.drew ?_) | (with_reducible refine below_drewN ?_ _) | (with_reducible refine Below.setCell ?_ ?_ _) | (with_reducible refine below_step ?_ (by with_reducible assumption) ?_) | (with_reducible exact Nat.le_refl _) | omega | (simp; omega) | (simp; done))))).sl) false H1.out).mono ?_
      rintro e w1 ⟨rfl, hb1⟩
      have R_n_1 : Row w1 (w.heap.size) [.int .i64 r, .int .i64 s, .slice a n cap] := by (repeat' (first | (with_reducible assumption) | (with_reducible refine Row.new' _ _ _ (by first | rfl | (simp; done) | omega)) | (with_reducible refine Row.alloc ?_ _) | (with_reducible refine Row.drew ?_) | (with_reducible refine Row.drewN ?_ _) | (with_reducible refine Row.step ?_ (by with_reducible assumption)) | (with_reducible refine Row.set2' ?_ _ _; first | exact ⟨_, _, by with_reducible assumption⟩ | exact ⟨_, _, Row.alloc (by with_reducible assumption) _⟩ | exact ⟨_, _, Row.alloc (Row.alloc (by with_reducible assumption) _) _⟩) | (with_reducible refine Row.other ?_ (by first | omega | (simp; done) | (simp; omega)) _)))
      have c_n_0_1 := R_n_1.cell 0 rfl
      have c_n_1_1 := R_n_1.cell 1 rfl
      have c_n_2_1 := R_n_1.cell 2 rfl
      have l_n_1 := R_n_1.lt
      replace K := K.step (show Below w.heap.size w w1 by (repeat' (first | (with_reducible exact Below.refl _ _) | (with_reducible assumption) | (with_reducible exact Bw.out (by with_reducible assumption)) | (with_reducible refine bw_alloc ?_ _) | (with_reducible refine bw_step ?_ (by with_reducible assumption)) | (with_reducible refine Below.alloc ?_ ?_ _) | (with_reducible refine Below.drew ?_) | (with_reducible refine below_drewN ?_ _) | (with_reducible refine Below.setCell ?_ ?_ _) | (with_reducible refine below_step ?_ (by with_reducible assumption) ?_) | (with_reducible exact Nat.le_refl _) | omega | (simp; omega) | (simp; done))))
      have HB1 : Below w.heap.size w w1 := by (repeat' (first | (with_reducible exact Below.refl _ _) | (with_reducible assumption) | (with_reducible exact Bw.out (by with_reducible assumption)) | (with_reducible refine bw_alloc ?_ _) | (with_reducible refine bw_step ?_ (by with_reducible assumption)) | (with_reducible refine Below.alloc ?_ ?_ _) | (with_reducible refine Below.drew ?_) | (with_reducible refine below_drewN ?_ _) | (with_reducible refine Below.setCell ?_ ?_ _) | (with_reducible refine below_step ?_ (by with_reducible assumption) ?_) | (with_reducible exact Nat.le_refl _) | omega | (simp; omega) | (simp; done)))
      go_wp2_with fail
      go_ret
      refine ⟨ret_bool (by simp), ?_⟩
      (repeat' (first | (with_reducible exact Below.refl _ _) | (with_reducible assumption) | (with_reducible exact Bw.out (by with_reducible assumption)) | (with_reducible refine bw_alloc ?_ _) | (with_reducible refine bw_step ?_ (by with_reducible assumption)) | (with_reducible refine Below.alloc ?_ ?_ _) | (with_reducible refine Below.drew ?_) | (with_reducible refine below_drewN ?_ _) | (with_reducible refine Below.setCell ?_ ?_ _) | (with_reducible refine below_step ?_ (by with_reducible assumption) ?_) | (with_reducible exact Nat.le_refl _) | omega | (simp; omega) | (simp; done)))
  · have h2' : fewN [nightOf r s a n cap zs] = false := by rw [h2]; simpa using h40
    have H2 := Lib.hid h2'
    have hB' : false = B := by
      rw [← hB]
      cases hu : usB r s zs c with
      | false => rfl
      | true => have := usB_len hu; omega
    subst hB'
    clear hB h1 h2 h2' h40
    go_enter Try.func41, Try.ntmps41
    go_wp2_with fail
    refine (R_few_any _ _ _ [nightOf r s a n cap zs] _ (by omega) (one_night (by (repeat' (first | (with_reducible assumption) | (with_reducible refine Row.new' _ _ _ (by first | rfl | (simp; done) | omega)) | (with_reducible refine Row.alloc ?_ _) | (with_reducible refine Row.drew ?_) | (with_reducible refine Row.drewN ?_ _) | (with_reducible refine Row.step ?_ (by with_reducible assumption))))) hm (K.step (by (repeat' (first | (with_reducible exact Below.refl _ _) | (with_reducible assumption) | (with_reducible exact Bw.out (by with_reducible assumption)) | (with_reducible refine bw_alloc ?_ _) | (with_reducible refine bw_step ?_ (by with_reducible assumption)) | (with_reducible refine Below.alloc ?_ ?_ _) | (with_reducible refine Below.drew ?_) | (with_reducible refine below_drewN ?_ _) | (with_reducible refine Below.setCell ?_ ?_ _) | (with_reducible refine below_step ?_ (by with_reducible assumption) ?_) | (with_reducible exact Nat.le_refl _) | omega | (simp; omega) | (simp; done))))).sl) false H2.out).mono ?_
    rintro e w' ⟨rfl, rfl⟩
    go_wp2_with fail
    go_ret
    refine ⟨ret_bool (by simp), ?_⟩
    (repeat' (first | (with_reducible exact Below.refl _ _) | (with_reducible assumption) | (with_reducible exact Bw.out (by with_reducible assumption)) | (with_reducible refine bw_alloc ?_ _) | (with_reducible refine bw_step ?_ (by with_reducible assumption)) | (with_reducible refine Below.alloc ?_ ?_ _) | (with_reducible refine Below.drew ?_) | (with_reducible refine below_drewN ?_ _) | (with_reducible refine Below.setCell ?_ ?_ _) | (with_reducible refine below_step ?_ (by with_reducible assumption) ?_) | (with_reducible exact Nat.le_refl _) | omega | (simp; omega) | (simp; done)))

end Go.Proofs.Ytijbhdpaikajkaa
