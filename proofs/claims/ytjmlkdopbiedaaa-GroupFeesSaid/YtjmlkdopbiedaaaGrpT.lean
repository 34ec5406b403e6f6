/-
  The walks of the reference's SameInts, Same and Few; equal structs of ints.
-/
import Derived.Test.YtjmlkdopbiedaaaGrpF
namespace Go.Proofs.Ytjmlkdopbiedaaa
set_option linter.unusedSimpArgs false
set_option linter.unusedVariables false
open Go.RowKit

theorem neq_rat (a b c d : Int) (w : World) : (binOp .neq 26 (.agg #[.int .i64 a, .int .i64 b]) (.agg #[.int .i64 c, .int .i64 d])).run Try.prog w = .ok (.bool (!(a == c && b == d))) w := by
  by_cases h1 : (a == c) = true
  · by_cases h2 : (b == d) = true
    · simp only [go_sem]; simp [go_sem, h1, h2]
    · simp only [go_sem]; simp [go_sem, h1, h2]
  · simp only [go_sem]; simp [go_sem, h1]
theorem neq_span (a b c d : Int) (w : World) : (binOp .neq 23 (.agg #[.int .i64 a, .int .i64 b]) (.agg #[.int .i64 c, .int .i64 d])).run Try.prog w = .ok (.bool (!(a == c && b == d))) w := by
  by_cases h1 : (a == c) = true
  · by_cases h2 : (b == d) = true
    · simp only [go_sem]; simp [go_sem, h1, h2]
    · simp only [go_sem]; simp [go_sem, h1, h2]
  · simp only [go_sem]; simp [go_sem, h1]
theorem neq_rat_same (a b : Int) (w : World) : (binOp .neq 26 (.agg #[.int .i64 a, .int .i64 b]) (.agg #[.int .i64 a, .int .i64 b])).run Try.prog w = .ok (.bool false) w := by rw [neq_rat]; simp
theorem neq_span_same (a b : Int) (w : World) : (binOp .neq 23 (.agg #[.int .i64 a, .int .i64 b]) (.agg #[.int .i64 a, .int .i64 b])).run Try.prog w = .ok (.bool false) w := by rw [neq_span]; simp
theorem neq_cut_same (a b c : Int) (w : World) : (binOp .neq 44 (.agg #[.int .i64 a, .int .i64 b, .int .i64 c]) (.agg #[.int .i64 a, .int .i64 b, .int .i64 c])).run Try.prog w = .ok (.bool false) w := by
  simp only [go_sem]; simp [go_sem]
attribute [local go_sem ↓] neq_rat_same neq_span_same neq_cut_same

theorem take_succ_getD {l : List Int} {k : Nat} (h : k < l.length) : l.take (k + 1) = l.take k ++ [l.getD k 0] := by
  rw [List.take_succ_eq_append_getElem h]; simp [List.getD, h]

set_option maxRecDepth 100000 in
set_option maxHeartbeats 1600000 in
theorem r_sameInts_q (a b : Option Addr) (n m cap cap2 : Nat) (zs ys : List Int) (w : World) (hn : n ≤ 9223372036854775807) (hm : m ≤ 9223372036854775807) (hs : SlI w a n zs) (ht : SlI w b m ys) :
    Calls Try.prog 24 #[.slice a n cap, .slice b m cap2] w fun e w' => e = .returned (.bool (decide (zs = ys))) ∧ ∃ q, w' = w.drewN q := by
  have l1 := Lib.hid hs.1
  have l2 := Lib.hid ht.1
  have HS := Lib.hid hs
  have HT := Lib.hid ht
  clear hs ht
  by_cases hnm : n = m
  · subst hnm
    obtain ⟨R, hR⟩ : ∃ R, decide (zs = ys) = R := ⟨_, rfl⟩
    rw [hR]
    have HR := Lib.hid hR
    clear hR
    go_enter Try.func24, Try.ntmps24
    go_wp2_with fail
    go_loopw [5] (fun i wr => ∃ k : Nat, k ≤ n ∧ i = .int .i64 k ∧ Hid (zs.take k = ys.take k) ∧ Hid (∃ q, wr = w.drewN q)) (fun i _ => n - (intOf i).toNat)
    case atStart => exact ⟨0, Nat.zero_le _, rfl, by show _ = _; simp, 0, rfl⟩
    case round =>
      obtain ⟨k, hk, rfl, hT, hq⟩ := hrel
      obtain ⟨q, hq⟩ := hq.out
      subst hq
      by_cases hlt : k < n
      · obtain ⟨b1, o1, x, e1, _, c1, g1, _, _⟩ := HS.out.get hlt
        obtain ⟨b2, o2, y, e2, _, c2, g2, _, _⟩ := HT.out.get hlt
        subst e1 e2
        have i1 : (0 : Int) ≤ (k : Int) := by omega
        have i2 : (k : Int) < (n : Int) := by omega
        by_cases hxy : x = y
        · subst hxy
          go_wp2_with fail
          go_quiet (fail)
          go_wp2_with fail
          go_roundw
          case rel => exact ⟨k + 1, by omega, by go_num, by show _ = _; rw [take_succ_getD (by rw [l1.out]; exact hlt), take_succ_getD (by rw [l2.out]; exact hlt), hT.out, g1.out, g2.out], _, rfl⟩
          case measure => simp [intOf]; omega
        · have hb : (x != y) = true := by simpa using hxy
          have hr : R = false := by
            rw [← HR.out]; simp; intro h; rw [h] at g1; exact hxy (g1.out.symm.trans g2.out)
          subst hr
          clear hxy
          go_wp2_with fail
          go_quiet (fail)
          go_wp2_with fail
          go_ret
          exact ⟨rfl, _, by first | rfl | exact World.drewN_drewN _ _ _⟩
      · obtain rfl : n = k := by omega
        have hr : R = true := by
          rw [← HR.out]; simp
          have := hT.out
          rwa [List.take_of_length_le (by rw [l1.out]; omega), List.take_of_length_le (by rw [l2.out]; omega)] at this
        subst hr
        go_wp2_with fail
        go_ret
        exact ⟨rfl, q, rfl⟩
  · have hr : decide (zs = ys) = false := by
      simp; intro h; apply hnm; rw [← l1.out, ← l2.out, h]
    rw [hr]
    clear hr
    have hb : ((n : Int) != (m : Int)) = true := by simp; omega
    have hb2 : (n != m) = true := by simp; omega
    clear hnm
    go_enter Try.func24, Try.ntmps24
    go_wp2_with fail
    go_ret
    exact ⟨rfl, 0, rfl⟩
theorem r_sameInts_c (a b : Option Addr) (n m c d : Nat) (zs ys : List Int) (R : Bool) (w : World) (hn : n ≤ 9223372036854775807) (hm : m ≤ 9223372036854775807) (hs : SlI w a n zs) (ht : SlI w b m ys) (hR : decide (zs = ys) = R) :
    Calls Try.prog 24 #[.slice a n c, .slice b m d] w fun e w' => e = .returned (.bool R) ∧ Below w.heap.size w w' := by
  subst hR
  refine (r_sameInts_q a b n m c d zs ys w hn hm hs ht).mono ?_
  rintro e w' ⟨he, q, rfl⟩
  exact ⟨he, below_drewN (Below.refl _ _) q⟩

/-- The cells of a block. -/
abbrev blkC (B : Blk) (ca : Option Addr) (cn cc : Nat) (pa : Option Addr) (pm pc : Nat) : List Value := [.int .i64 B.id, .int .i64 B.kind, .int .i64 B.rooms, .int .i64 B.fr, .int .i64 B.un, .slice ca cn cc, .int .i64 B.pn, .int .i64 B.pd, .int .i64 B.fee, .slice pa pm pc]

set_option maxRecDepth 100000 in
set_option maxHeartbeats 6400000 in
/-- Two blocks that are the same. -/
theorem r_Same (B : Blk) (ca : Option Addr) (cn cc : Nat) (pa : Option Addr) (pm pc : Nat) (ca2 : Option Addr) (cc2 : Nat) (pa2 : Option Addr) (pc2 : Nat) (w : World) (h1 : BlkIn w B ca cn cc pa pm pc) (h2 : BlkIn w B ca2 cn cc2 pa2 pm pc2) :
    Calls Try.prog 17 #[.agg #[.int .i64 B.id, .int .i64 B.kind, .int .i64 B.rooms, .int .i64 B.fr, .int .i64 B.un, .slice ca cn cc, .int .i64 B.pn, .int .i64 B.pd, .int .i64 B.fee, .slice pa pm pc], .agg #[.int .i64 B.id, .int .i64 B.kind, .int .i64 B.rooms, .int .i64 B.fr, .int .i64 B.un, .slice ca2 cn cc2, .int .i64 B.pn, .int .i64 B.pd, .int .i64 B.fee, .slice pa2 pm pc2]] w fun e w' => e = .returned (.bool true) ∧ Below w.heap.size w w' := by
  have H1 := Lib.hid h1
  have H2 := Lib.hid h2
  obtain ⟨p1, p2⟩ := h1.ccap
  obtain ⟨p3, p4⟩ := h1.pcap
  clear h1 h2
  go_enter Try.func17, Try.ntmps17
  go_wp2_with fail
  obtain ⟨w0, hw0⟩ : ∃ w0, (w.alloc (.cells #[.int .i64 B.id, .int .i64 B.kind, .int .i64 B.rooms, .int .i64 B.fr, .int .i64 B.un, .slice ca cn cc, .int .i64 B.pn, .int .i64 B.pd, .int .i64 B.fee, .slice pa pm pc] 29)).alloc (.cells #[.int .i64 B.id, .int .i64 B.kind, .int .i64 B.rooms, .int .i64 B.fr, .int .i64 B.un, .slice ca2 cn cc2, .int .i64 B.pn, .int .i64 B.pd, .int .i64 B.fee, .slice pa2 pm pc2] 29) = w0 := ⟨_, rfl⟩
  have hb1 : Below w.heap.size w w0 := by rw [← hw0]; (repeat' (first | (with_reducible exact Below.refl _ _) | (with_reducible assumption) | (with_reducible exact Bw.out (by with_reducible assumption)) | (with_reducible refine bw_alloc ?_ _) | (with_reducible refine bw_step ?_ (by with_reducible assumption)) | (with_reducible refine Below.alloc ?_ ?_ _) | (with_reducible refine Below.drew ?_) | (with_reducible refine below_drewN ?_ _) | (with_reducible refine Below.setCell ?_ ?_ _) | (with_reducible refine below_step ?_ (by with_reducible assumption) ?_) | (with_reducible exact Nat.le_refl _) | omega | (simp; omega) | (simp; done)))
  have R_a_1 : Row w0 w.heap.size [.int .i64 B.id, .int .i64 B.kind, .int .i64 B.rooms, .int .i64 B.fr, .int .i64 B.un, .slice ca cn cc, .int .i64 B.pn, .int .i64 B.pd, .int .i64 B.fee, .slice pa pm pc] := by rw [← hw0]; (repeat' (first | (with_reducible assumption) | (with_reducible refine Row.new' _ _ _ (by first | rfl | (simp; done) | omega)) | (with_reducible refine Row.alloc ?_ _) | (with_reducible refine Row.drew ?_) | (with_reducible refine Row.drewN ?_ _) | (with_reducible refine Row.step ?_ (by with_reducible assumption))))
  have R_b_1 : Row w0 (w.heap.size + 1) [.int .i64 B.id, .int .i64 B.kind, .int .i64 B.rooms, .int .i64 B.fr, .int .i64 B.un, .slice ca2 cn cc2, .int .i64 B.pn, .int .i64 B.pd, .int .i64 B.fee, .slice pa2 pm pc2] := by rw [← hw0]; (repeat' (first | (with_reducible assumption) | (with_reducible refine Row.new' _ _ _ (by first | rfl | (simp; done) | omega)) | (with_reducible refine Row.alloc ?_ _) | (with_reducible refine Row.drew ?_) | (with_reducible refine Row.drewN ?_ _) | (with_reducible refine Row.step ?_ (by with_reducible assumption))))
  rw [hw0]
  clear hw0
  go_loopw [5] (fun i wr => ∃ k : Nat, k ≤ cn ∧ i = .int .i64 k ∧ Hid (∃ q, wr = w0.drewN q)) (fun i _ => cn - (intOf i).toNat)
  case atStart => exact ⟨0, Nat.zero_le _, rfl, 0, rfl⟩
  case round =>
    obtain ⟨k, hk, rfl, hq⟩ := hrel
    obtain ⟨q, hq⟩ := hq.out
    subst hq
    have c5 := R_a_1.cell 5 rfl
    have d5 := R_b_1.cell 5 rfl
    have c9 := R_a_1.cell 9 rfl
    have d9 := R_b_1.cell 9 rfl
    have la := R_a_1.lt
    have lb := R_b_1.lt
    by_cases hlt : k < cn
    · obtain ⟨d, kn, kd, b1, o1, g1, _, _, e1, _, x1, x2, x3⟩ := (H1.out.below hb1).cuts.get hlt
      obtain ⟨d', kn', kd', b2, o2, g2, _, _, e2, _, y1, y2, y3⟩ := (H2.out.below hb1).cuts.get hlt
      have e := g1.out.symm.trans g2.out
      simp only [Prod.mk.injEq] at e
      obtain ⟨rfl, rfl, rfl⟩ := e
      subst e1 e2
      have i1 : (0 : Int) ≤ (k : Int) := by omega
      have i2 : (k : Int) < (cn : Int) := by omega
      clear g1 g2
      go_wp2_with fail
      go_quiet (fail)
      go_wp2_with fail
      go_roundw
      case rel => exact ⟨k + 1, by omega, by go_num, _, by first | rfl | exact World.drewN_drewN _ _ _⟩
      case measure => simp [intOf]; omega
    · obtain rfl : k = cn := by omega
      go_wp2_with fail
      refine (r_sameInts_c pa pa2 pm pm pc pc2 B.picked B.picked true _ (by omega) (by omega) ((H1.out.below hb1).picked.below (below_drewN (Below.refl _ _) q)) ((H2.out.below hb1).picked.below (below_drewN (Below.refl _ _) q)) (by simp)).mono ?_
      rintro e w2 ⟨rfl, hb2⟩
      go_wp2_with fail
      go_ret
      exact ⟨rfl, (below_drewN hb1 q).trans (hb2.mono (below_drewN hb1 q).size)⟩

theorem r_few (B : Blk) (ca : Option Addr) (cn cc : Nat) (pa : Option Addr) (pm pc : Nat) (R : Bool) (w : World) (hR : (decide (cn ≤ 40) && decide (pm ≤ 400)) = R) :
    Calls Try.prog 10 #[.agg #[.int .i64 B.id, .int .i64 B.kind, .int .i64 B.rooms, .int .i64 B.fr, .int .i64 B.un, .slice ca cn cc, .int .i64 B.pn, .int .i64 B.pd, .int .i64 B.fee, .slice pa pm pc]] w fun e w' => e = .returned (.bool R) ∧ Below w.heap.size w w' := by
  subst hR
  by_cases h1 : cn ≤ 40
  · go_enter Try.func10, Try.ntmps10
    go_wp2_with fail
    go_ret
    exact ⟨ret_bool (by simp [h1]; try omega), by (repeat' (first | (with_reducible exact Below.refl _ _) | (with_reducible assumption) | (with_reducible exact Bw.out (by with_reducible assumption)) | (with_reducible refine bw_alloc ?_ _) | (with_reducible refine bw_step ?_ (by with_reducible assumption)) | (with_reducible refine Below.alloc ?_ ?_ _) | (with_reducible refine Below.drew ?_) | (with_reducible refine below_drewN ?_ _) | (with_reducible refine Below.setCell ?_ ?_ _) | (with_reducible refine below_step ?_ (by with_reducible assumption) ?_) | (with_reducible exact Nat.le_refl _) | omega | (simp; omega) | (simp; done)))⟩
  · go_enter Try.func10, Try.ntmps10
    go_wp2_with fail
    go_ret
    exact ⟨ret_bool (by first | (simp; omega) | (simp [h1]; done)), by (repeat' (first | (with_reducible exact Below.refl _ _) | (with_reducible assumption) | (with_reducible exact Bw.out (by with_reducible assumption)) | (with_reducible refine bw_alloc ?_ _) | (with_reducible refine bw_step ?_ (by with_reducible assumption)) | (with_reducible refine Below.alloc ?_ ?_ _) | (with_reducible refine Below.drew ?_) | (with_reducible refine below_drewN ?_ _) | (with_reducible refine Below.setCell ?_ ?_ _) | (with_reducible refine below_step ?_ (by with_reducible assumption) ?_) | (with_reducible exact Nat.le_refl _) | omega | (simp; omega) | (simp; done)))⟩

end Go.Proofs.Ytjmlkdopbiedaaa
