/-
  Package scene, tenth part: the head of law25, its examples.
-/
import Derived.Test.YtdijdfhlmnhcjaaScnI
namespace Go.Proofs.Ytdijdfhlmnhcjaa
set_option linter.unusedSimpArgs false
set_option linter.unusedVariables false
open Go.RowKit Go.MapKept

theorem take_succ_get22 {l : List Int} {k : Nat} (h : k < l.length) : l.take (k + 1) = l.take k ++ [l.getD k 0] := by
  rw [List.take_succ_eq_append_getElem h]; simp [List.getD, h]

set_option maxRecDepth 100000 in
set_option maxHeartbeats 1600000 in
theorem R22_same_q (a b : Option Addr) (n m cap cap2 : Nat) (zs ys : List Int) (w : World) (hn : n ≤ 9223372036854775807) (hm : m ≤ 9223372036854775807) (hs : SlI w a n zs) (ht : SlI w b m ys) :
    Calls Try.prog 20 #[.slice a n cap, .slice b m cap2] w fun e w' => e = .returned (.bool (decide (zs = ys))) ∧ ∃ q, w' = w.drewN q := by
  have l1 := Lib.hid hs.1
  have l2 := Lib.hid ht.1
  have HS := Lib.hid hs
  have HT := Lib.hid ht
  clear hs ht
  by_cases hnm : n = m
  · subst hnm
    obtain ⟨R, hR⟩ : ∃ R, decide (zs = ys) = R := ⟨_, rfl⟩
    rw [hR]
    have HR := Lib.hid hR
    clear hR
    go_enter Try.func20, Try.ntmps20
    go_wp2_with fail
    go_loopw [5] (fun i wr => ∃ k : Nat, k ≤ n ∧ i = .int .i64 k ∧ Hid (zs.take k = ys.take k) ∧ Hid (∃ q, wr = w.drewN q)) (fun i _ => n - (intOf i).toNat)
    case atStart => exact ⟨0, Nat.zero_le _, rfl, by show _ = _; simp, 0, rfl⟩
    case round =>
      obtain ⟨k, hk, rfl, hT, hq⟩ := hrel
      obtain ⟨q, hq⟩ := hq.out
      subst hq
      by_cases hlt : k < n
      · obtain ⟨b1, o1, x, e1, _, c1, g1, _, _⟩ := HS.out.get hlt
        obtain ⟨b2, o2, y, e2, _, c2, g2, _, _⟩ := HT.out.get hlt
        subst e1 e2
        have i1 : (0 : Int) ≤ (k : Int) := by omega
        have i2 : (k : Int) < (n : Int) := by omega
        by_cases hxy : x = y
        · subst hxy
          go_wp2_with fail
          go_quiet (fail)
          go_wp2_with fail
          go_roundw
          case rel => exact ⟨k + 1, by omega, by go_num, by show _ = _; rw [take_succ_get22 (by rw [l1.out]; exact hlt), take_succ_get22 (by rw [l2.out]; exact hlt), hT.out, g1.out, g2.out], _, rfl⟩
          case measure => simp [intOf]; omega
        · have hb : (x != y) = true := by simpa using hxy
          have hr : R = false := by
            rw [← HR.out]; simp; intro h; rw [h] at g1; exact hxy (g1.out.symm.trans g2.out)
          subst hr
          clear hxy
          go_wp2_with fail
          go_quiet (fail)
          go_wp2_with fail
          go_ret
          exact ⟨rfl, _, by first | rfl | exact World.drewN_drewN _ _ _⟩
      · obtain rfl : n = k := by omega
        have hr : R = true := by
          rw [← HR.out]; simp
          have := hT.out
          rwa [List.take_of_length_le (by rw [l1.out]; omega), List.take_of_length_le (by rw [l2.out]; omega)] at this
        subst hr
        go_wp2_with fail
        go_ret
        exact ⟨rfl, q, rfl⟩
  · have hr : decide (zs = ys) = false := by
      simp; intro h; apply hnm; rw [← l1.out, ← l2.out, h]
    rw [hr]
    clear hr
    have hb : ((n : Int) != (m : Int)) = true := by simp; omega
    have hb2 : (n != m) = true := by simp; omega
    clear hnm
    go_enter Try.func20, Try.ntmps20
    go_wp2_with fail
    go_ret
    exact ⟨rfl, 0, rfl⟩

theorem R22_same (v u : Value) (zs ys : List Int) (w : World) (hs : SlV w v zs) (ht : SlV w u ys) :
    Calls Try.prog 20 #[v, u] w fun e w' => e = .returned (.bool (decide (zs = ys))) ∧ Below w.heap.size w w' := by
  obtain ⟨a, c, rfl, h1, h2, h3⟩ := hs
  obtain ⟨b, d, rfl, g1, g2, g3⟩ := ht
  unfold maxLen at h3 g3
  refine (R22_same_q a b _ _ c d zs ys w (by omega) (by omega) h1 g1).mono ?_
  rintro e w' ⟨he, q, rfl⟩
  exact ⟨he, below_drewN (Below.refl _ _) q⟩


def exN (L : Nat) : NightV := ⟨10, 9, some ⟨L, 0, none⟩, 3, 3, [3, 1, 2]⟩
theorem ex_sl {w : World} {B L : Nat} (hr : Row w B [.int .i64 10, .int .i64 9, .slice (some ⟨L, 0, none⟩) 3 3]) (hl : Row w L [.int .i64 3, .int .i64 1, .int .i64 2]) : SlN w (some ⟨B, 0, none⟩) 1 [exN L] :=
  ⟨rfl, fun i x hx => by
    match i, hx with
    | 0, hx => cases hx; exact ⟨⟨by show (3 : Nat) ≤ _; omega, SlI.row (rest := []) hl rfl⟩, B, 0, rfl, hr.cell 0 rfl, hr.cell 1 rfl, hr.cell 2 rfl⟩
    | i + 1, hx => simp at hx⟩
theorem ex_two {w : World} {C : Nat} {x y : Int} (hc : Row w C [.int .i64 x, .int .i64 y]) : SlI w (some ⟨C, 0, none⟩) 2 [x, y] := SlI.row (rest := []) hc rfl
def X13 : List SaleV := salesK 4 0 9 [0, 2] [3, 1] 2
theorem ex_open (L : Nat) : openB [exN L] 0 3 [0, 2] [3, 1] = true := by kernel_rfl
theorem hd_run (B L C Y : Nat) (w : World) (hr : Row w B [.int .i64 10, .int .i64 9, .slice (some ⟨L, 0, none⟩) 3 3]) (hl : Row w L [.int .i64 3, .int .i64 1, .int .i64 2]) (hc : Row w C [.int .i64 0, .int .i64 2]) (hy : Row w Y [.int .i64 3, .int .i64 1]) :
    Calls Try.prog 11 #[.slice (some ⟨B, 0, none⟩) 1 1, .agg #[.int .i64 0, .int .i64 3, .slice (some ⟨C, 0, none⟩) 2 2, .slice (some ⟨Y, 0, none⟩) 2 2]] w
      fun e w' => e = .returned (.tuple #[.int .i64 3, .int .i64 0]) ∧ Below w.heap.size w w' :=
  Run_ok _ 1 1 [exN L] 0 3 _ 2 2 [0, 2] _ 2 2 [3, 1] w (by omega) (by omega) (by omega) (ex_sl hr hl) (ex_two hc) (ex_two hy) (ex_open L) 3 (by kernel_rfl)
theorem hd_sales (B L C Y : Nat) (w : World) (hr : Row w B [.int .i64 10, .int .i64 9, .slice (some ⟨L, 0, none⟩) 3 3]) (hl : Row w L [.int .i64 3, .int .i64 1, .int .i64 2]) (hc : Row w C [.int .i64 0, .int .i64 2]) (hy : Row w Y [.int .i64 3, .int .i64 1]) :
    Calls Try.prog 15 #[.slice (some ⟨B, 0, none⟩) 1 1, .agg #[.int .i64 0, .int .i64 3, .slice (some ⟨C, 0, none⟩) 2 2, .slice (some ⟨Y, 0, none⟩) 2 2], .int .i64 4] w
      fun e w' => ∃ ad cp, e = .returned (.tuple #[.slice ad 13 cp, .int .i64 0]) ∧ SlS w' ad 13 X13 ∧ Below w.heap.size w w' := by
  refine (Sales_ok _ 1 1 [exN L] 0 3 _ 2 2 [0, 2] _ 2 2 [3, 1] 4 w (by omega) (by omega) (by omega) (ex_sl hr hl) (ex_two hc) (ex_two hy) (by rw [ex_open L]; kernel_rfl)).mono ?_
  rintro e w' ⟨v, base, rfl, hv, _, hb⟩
  obtain ⟨ad, cp, rfl, hv⟩ := hv.shape 13 (by kernel_rfl)
  exact ⟨ad, cp, rfl, hv.sl.1, hb⟩
theorem hd_bad (B L C Y : Nat) (w : World) (hr : Row w B [.int .i64 10, .int .i64 9, .slice (some ⟨L, 0, none⟩) 3 3]) (hl : Row w L [.int .i64 3, .int .i64 1, .int .i64 2]) (hc : Row w C [.int .i64 0, .int .i64 2]) (hy : Row w Y [.int .i64 3, .int .i64 1]) :
    Calls Try.prog 15 #[.slice (some ⟨B, 0, none⟩) 1 1, .agg #[.int .i64 0, .int .i64 3, .slice (some ⟨C, 0, none⟩) 2 2, .slice (some ⟨Y, 0, none⟩) 2 2], .int .i64 21] w
      fun e w' => e = .returned (.tuple #[.slice none 0 0, .int .i64 1]) ∧ Below w.heap.size w w' :=
  Sales_no _ 1 1 [exN L] 0 3 _ 2 2 [0, 2] _ 2 2 [3, 1] 21 w (by omega) (by omega) (by omega) (ex_sl hr hl) (ex_two hc) (ex_two hy) (by rw [ex_open L]; kernel_rfl)
theorem hd_count (B L A : Nat) (ad : Option Addr) (cp : Nat) (w : World) (hr : Row w B [.int .i64 10, .int .i64 9, .slice (some ⟨L, 0, none⟩) 3 3]) (hl : Row w L [.int .i64 3, .int .i64 1, .int .i64 2]) (hs : SlS w ad 13 X13) (ha : Row w A [.int .i64 1, .int .i64 13]) :
    Calls Try.prog 18 #[.slice (some ⟨B, 0, none⟩) 1 1, .slice ad 13 cp, .slice (some ⟨A, 0, none⟩) 2 2] w
      fun e w' => ∃ g, e = .returned (.tuple #[.slice (some ⟨g, 0, none⟩) 1 1, .int .i64 0]) ∧ SlV w' (.slice (some ⟨g, 0, none⟩) 1 1) [1] ∧ Below w.heap.size w w' := by
  refine (Count_ok _ 1 1 [exN L] ad 13 cp X13 _ 2 2 [1, 13] w (ex_sl hr hl) hs (ex_two ha) ?_ (by kernel_rfl)).mono ?_
  · intro x hx
    have h : X13.all (fun x => decide (-9223372036854775808 ≤ x.fr) && decide (x.fr ≤ 9223372036854775807)) = true := by kernel_rfl
    have := List.all_eq_true.1 h x hx
    simpa using this
  · rintro e w' ⟨g, rfl, hv, hb⟩
    have e1 : cntL [exN L] X13 [1, 13] = [1] := by kernel_rfl
    rw [e1] at hv
    exact ⟨g, rfl, hv.sl, hb⟩
theorem hd_valid (B L C Y : Nat) (w : World) (hr : Row w B [.int .i64 10, .int .i64 9, .slice (some ⟨L, 0, none⟩) 3 3]) (hl : Row w L [.int .i64 3, .int .i64 1, .int .i64 2]) (hc : Row w C [.int .i64 0, .int .i64 2]) (hy : Row w Y [.int .i64 3, .int .i64 1]) :
    Calls Try.prog 13 #[.slice (some ⟨B, 0, none⟩) 1 1, .agg #[.int .i64 0, .int .i64 3, .slice (some ⟨C, 0, none⟩) 2 2, .slice (some ⟨Y, 0, none⟩) 2 2]] w
      fun e w' => e = .returned (.bool true) ∧ Below w.heap.size w w' :=
  Valid_any _ 1 1 [exN L] 0 3 _ 2 2 [0, 2] _ 2 2 [3, 1] w (by omega) (by omega) (by omega) (ex_sl hr hl) (ex_two hc) (ex_two hy) true (ex_open L)
theorem hd_none (C Y : Nat) (w : World) (hc : Row w C [.int .i64 0, .int .i64 2]) (hy : Row w Y [.int .i64 3, .int .i64 1]) :
    Calls Try.prog 13 #[.slice none 0 0, .agg #[.int .i64 0, .int .i64 3, .slice (some ⟨C, 0, none⟩) 2 2, .slice (some ⟨Y, 0, none⟩) 2 2]] w
      fun e w' => e = .returned (.bool false) ∧ Below w.heap.size w w' :=
  Valid_any _ 0 0 [] 0 3 _ 2 2 [0, 2] _ 2 2 [3, 1] w (by omega) (by omega) (by omega) (SlN.nil _ _) (ex_two hc) (ex_two hy) false (by kernel_rfl)

set_option maxRecDepth 100000 in
set_option maxHeartbeats 12800000 in
theorem s_head_any (w : World) : Calls Try.prog 9 #[] w fun e w' => e = .returned (.bool true) ∧ Below w.heap.size w w' := by
  go_enter Try.func9, Try.ntmps9
  go_wp2_with fail
  refine (hd_run _ _ _ _ _ (by (repeat' (first | (with_reducible assumption) | (with_reducible refine Row.new' _ _ _ (by first | rfl | (simp; done) | omega)) | (with_reducible refine Row.alloc ?_ _) | (with_reducible refine Row.drew ?_) | (with_reducible refine Row.drewN ?_ _) | (with_reducible refine Row.step ?_ (by with_reducible assumption))))) (by (repeat' (first | (with_reducible assumption) | (with_reducible refine Row.new' _ _ _ (by first | rfl | (simp; done) | omega)) | (with_reducible refine Row.alloc ?_ _) | (with_reducible refine Row.drew ?_) | (with_reducible refine Row.drewN ?_ _) | (with_reducible refine Row.step ?_ (by with_reducible assumption))))) (by (repeat' (first | (with_reducible assumption) | (with_reducible refine Row.new' _ _ _ (by first | rfl | (simp; done) | omega)) | (with_reducible refine Row.alloc ?_ _) | (with_reducible refine Row.drew ?_) | (with_reducible refine Row.drewN ?_ _) | (with_reducible refine Row.step ?_ (by with_reducible assumption))))) (by (repeat' (first | (with_reducible assumption) | (with_reducible refine Row.new' _ _ _ (by first | rfl | (simp; done) | omega)) | (with_reducible refine Row.alloc ?_ _) | (with_reducible refine Row.drew ?_) | (with_reducible refine Row.drewN ?_ _) | (with_reducible refine Row.step ?_ (by with_reducible assumption)))))).mono ?_
  rintro e w1 ⟨rfl, hb1⟩
  have R_l_1 : Row w1 (w.heap.size) [.int .i64 (3), .int .i64 (1), .int .i64 (2)] := by (repeat' (first | (with_reducible assumption) | (with_reducible refine Row.new' _ _ _ (by first | rfl | (simp; done) | omega)) | (with_reducible refine Row.alloc ?_ _) | (with_reducible refine Row.drew ?_) | (with_reducible refine Row.drewN ?_ _) | (with_reducible refine Row.step ?_ (by with_reducible assumption)) | (with_reducible refine Row.set2' ?_ _ _; first | exact ⟨_, _, by with_reducible assumption⟩ | exact ⟨_, _, Row.alloc (by with_reducible assumption) _⟩ | exact ⟨_, _, Row.alloc (Row.alloc (by with_reducible assumption) _) _⟩) | (with_reducible refine Row.other ?_ (by first | omega | (simp; done) | (simp; omega)) _)))
  have c_l_0_1 := R_l_1.cell 0 rfl
  have c_l_1_1 := R_l_1.cell 1 rfl
  have c_l_2_1 := R_l_1.cell 2 rfl
  have l_l_1 := R_l_1.lt
  have R_n_1 : Row w1 (w.heap.size + 1) [.int .i64 (10), .int .i64 (9), .slice (some ⟨w.heap.size, 0, none⟩) 3 3] := by (repeat' (first | (with_reducible assumption) | (with_reducible refine Row.new' _ _ _ (by first | rfl | (simp; done) | omega)) | (with_reducible refine Row.alloc ?_ _) | (with_reducible refine Row.drew ?_) | (with_reducible refine Row.drewN ?_ _) | (with_reducible refine Row.step ?_ (by with_reducible assumption)) | (with_reducible refine Row.set2' ?_ _ _; first | exact ⟨_, _, by with_reducible assumption⟩ | exact ⟨_, _, Row.alloc (by with_reducible assumption) _⟩ | exact ⟨_, _, Row.alloc (Row.alloc (by with_reducible assumption) _) _⟩) | (with_reducible refine Row.other ?_ (by first | omega | (simp; done) | (simp; omega)) _)))
  have c_n_0_1 := R_n_1.cell 0 rfl
  have c_n_1_1 := R_n_1.cell 1 rfl
  have c_n_2_1 := R_n_1.cell 2 rfl
  have l_n_1 := R_n_1.lt
  have R_c_1 : Row w1 (w.heap.size + 2) [.int .i64 (0), .int .i64 (2)] := by (repeat' (first | (with_reducible assumption) | (with_reducible refine Row.new' _ _ _ (by first | rfl | (simp; done) | omega)) | (with_reducible refine Row.alloc ?_ _) | (with_reducible refine Row.drew ?_) | (with_reducible refine Row.drewN ?_ _) | (with_reducible refine Row.step ?_ (by with_reducible assumption)) | (with_reducible refine Row.set2' ?_ _ _; first | exact ⟨_, _, by with_reducible assumption⟩ | exact ⟨_, _, Row.alloc (by with_reducible assumption) _⟩ | exact ⟨_, _, Row.alloc (Row.alloc (by with_reducible assumption) _) _⟩) | (with_reducible refine Row.other ?_ (by first | omega | (simp; done) | (simp; omega)) _)))
  have c_c_0_1 := R_c_1.cell 0 rfl
  have c_c_1_1 := R_c_1.cell 1 rfl
  have l_c_1 := R_c_1.lt
  have R_y_1 : Row w1 (w.heap.size + 3) [.int .i64 (3), .int .i64 (1)] := by (repeat' (first | (with_reducible assumption) | (with_reducible refine Row.new' _ _ _ (by first | rfl | (simp; done) | omega)) | (with_reducible refine Row.alloc ?_ _) | (with_reducible refine Row.drew ?_) | (with_reducible refine Row.drewN ?_ _) | (with_reducible refine Row.step ?_ (by with_reducible assumption)) | (with_reducible refine Row.set2' ?_ _ _; first | exact ⟨_, _, by with_reducible assumption⟩ | exact ⟨_, _, Row.alloc (by with_reducible assumption) _⟩ | exact ⟨_, _, Row.alloc (Row.alloc (by with_reducible assumption) _) _⟩) | (with_reducible refine Row.other ?_ (by first | omega | (simp; done) | (simp; omega)) _)))
  have c_y_0_1 := R_y_1.cell 0 rfl
  have c_y_1_1 := R_y_1.cell 1 rfl
  have l_y_1 := R_y_1.lt
  have R_s_1 : Row w1 (w.heap.size + 4) [.int .i64 (0), .int .i64 (3), .slice (some ⟨w.heap.size + 2, 0, none⟩) 2 2, .slice (some ⟨w.heap.size + 3, 0, none⟩) 2 2] := by (repeat' (first | (with_reducible assumption) | (with_reducible refine Row.new' _ _ _ (by first | rfl | (simp; done) | omega)) | (with_reducible refine Row.alloc ?_ _) | (with_reducible refine Row.drew ?_) | (with_reducible refine Row.drewN ?_ _) | (with_reducible refine Row.step ?_ (by with_reducible assumption)) | (with_reducible refine Row.set2' ?_ _ _; first | exact ⟨_, _, by with_reducible assumption⟩ | exact ⟨_, _, Row.alloc (by with_reducible assumption) _⟩ | exact ⟨_, _, Row.alloc (Row.alloc (by with_reducible assumption) _) _⟩) | (with_reducible refine Row.other ?_ (by first | omega | (simp; done) | (simp; omega)) _)))
  have c_s_0_1 := R_s_1.cell 0 rfl
  have c_s_1_1 := R_s_1.cell 1 rfl
  have c_s_2_1 := R_s_1.cell 2 rfl
  have c_s_3_1 := R_s_1.cell 3 rfl
  have l_s_1 := R_s_1.lt
  have HB1 : Below w.heap.size w w1 := by (repeat' (first | (with_reducible exact Below.refl _ _) | (with_reducible assumption) | (with_reducible exact Bw.out (by with_reducible assumption)) | (with_reducible refine bw_alloc ?_ _) | (with_reducible refine bw_step ?_ (by with_reducible assumption)) | (with_reducible refine Below.alloc ?_ ?_ _) | (with_reducible refine Below.drew ?_) | (with_reducible refine below_drewN ?_ _) | (with_reducible refine Below.setCell ?_ ?_ _) | (with_reducible refine below_step ?_ (by with_reducible assumption) ?_) | (with_reducible exact Nat.le_refl _) | omega | (simp; omega) | (simp; done)))
  go_wp2_with fail
  refine (hd_sales _ _ _ _ _ (by (repeat' (first | (with_reducible assumption) | (with_reducible refine Row.new' _ _ _ (by first | rfl | (simp; done) | omega)) | (with_reducible refine Row.alloc ?_ _) | (with_reducible refine Row.drew ?_) | (with_reducible refine Row.drewN ?_ _) | (with_reducible refine Row.step ?_ (by with_reducible assumption))))) (by (repeat' (first | (with_reducible assumption) | (with_reducible refine Row.new' _ _ _ (by first | rfl | (simp; done) | omega)) | (with_reducible refine Row.alloc ?_ _) | (with_reducible refine Row.drew ?_) | (with_reducible refine Row.drewN ?_ _) | (with_reducible refine Row.step ?_ (by with_reducible assumption))))) (by (repeat' (first | (with_reducible assumption) | (with_reducible refine Row.new' _ _ _ (by first | rfl | (simp; done) | omega)) | (with_reducible refine Row.alloc ?_ _) | (with_reducible refine Row.drew ?_) | (with_reducible refine Row.drewN ?_ _) | (with_reducible refine Row.step ?_ (by with_reducible assumption))))) (by (repeat' (first | (with_reducible assumption) | (with_reducible refine Row.new' _ _ _ (by first | rfl | (simp; done) | omega)) | (with_reducible refine Row.alloc ?_ _) | (with_reducible refine Row.drew ?_) | (with_reducible refine Row.drewN ?_ _) | (with_reducible refine Row.step ?_ (by with_reducible assumption)))))).mono ?_
  rintro e w2 ⟨ad, cp, rfl, KS, hb2⟩
  have R_l_2 : Row w2 (w.heap.size) [.int .i64 (3), .int .i64 (1), .int .i64 (2)] := by (repeat' (first | (with_reducible assumption) | (with_reducible refine Row.new' _ _ _ (by first | rfl | (simp; done) | omega)) | (with_reducible refine Row.alloc ?_ _) | (with_reducible refine Row.drew ?_) | (with_reducible refine Row.drewN ?_ _) | (with_reducible refine Row.step ?_ (by with_reducible assumption)) | (with_reducible refine Row.set2' ?_ _ _; first | exact ⟨_, _, by with_reducible assumption⟩ | exact ⟨_, _, Row.alloc (by with_reducible assumption) _⟩ | exact ⟨_, _, Row.alloc (Row.alloc (by with_reducible assumption) _) _⟩) | (with_reducible refine Row.other ?_ (by first | omega | (simp; done) | (simp; omega)) _)))
  have c_l_0_2 := R_l_2.cell 0 rfl
  have c_l_1_2 := R_l_2.cell 1 rfl
  have c_l_2_2 := R_l_2.cell 2 rfl
  have l_l_2 := R_l_2.lt
  have R_n_2 : Row w2 (w.heap.size + 1) [.int .i64 (10), .int .i64 (9), .slice (some ⟨w.heap.size, 0, none⟩) 3 3] := by (repeat' (first | (with_reducible assumption) | (with_reducible refine Row.new' _ _ _ (by first | rfl | (simp; done) | omega)) | (with_reducible refine Row.alloc ?_ _) | (with_reducible refine Row.drew ?_) | (with_reducible refine Row.drewN ?_ _) | (with_reducible refine Row.step ?_ (by with_reducible assumption)) | (with_reducible refine Row.set2' ?_ _ _; first | exact ⟨_, _, by with_reducible assumption⟩ | exact ⟨_, _, Row.alloc (by with_reducible assumption) _⟩ | exact ⟨_, _, Row.alloc (Row.alloc (by with_reducible assumption) _) _⟩) | (with_reducible refine Row.other ?_ (by first | omega | (simp; done) | (simp; omega)) _)))
  have c_n_0_2 := R_n_2.cell 0 rfl
  have c_n_1_2 := R_n_2.cell 1 rfl
  have c_n_2_2 := R_n_2.cell 2 rfl
  have l_n_2 := R_n_2.lt
  have R_c_2 : Row w2 (w.heap.size + 2) [.int .i64 (0), .int .i64 (2)] := by (repeat' (first | (with_reducible assumption) | (with_reducible refine Row.new' _ _ _ (by first | rfl | (simp; done) | omega)) | (with_reducible refine Row.alloc ?_ _) | (with_reducible refine Row.drew ?_) | (with_reducible refine Row.drewN ?_ _) | (with_reducible refine Row.step ?_ (by with_reducible assumption)) | (with_reducible refine Row.set2' ?_ _ _; first | exact ⟨_, _, by with_reducible assumption⟩ | exact ⟨_, _, Row.alloc (by with_reducible assumption) _⟩ | exact ⟨_, _, Row.alloc (Row.alloc (by with_reducible assumption) _) _⟩) | (with_reducible refine Row.other ?_ (by first | omega | (simp; done) | (simp; omega)) _)))
  have c_c_0_2 := R_c_2.cell 0 rfl
  have c_c_1_2 := R_c_2.cell 1 rfl
  have l_c_2 := R_c_2.lt
  have R_y_2 : Row w2 (w.heap.size + 3) [.int .i64 (3), .int .i64 (1)] := by (repeat' (first | (with_reducible assumption) | (with_reducible refine Row.new' _ _ _ (by first | rfl | (simp; done) | omega)) | (with_reducible refine Row.alloc ?_ _) | (with_reducible refine Row.drew ?_) | (with_reducible refine Row.drewN ?_ _) | (with_reducible refine Row.step ?_ (by with_reducible assumption)) | (with_reducible refine Row.set2' ?_ _ _; first | exact ⟨_, _, by with_reducible assumption⟩ | exact ⟨_, _, Row.alloc (by with_reducible assumption) _⟩ | exact ⟨_, _, Row.alloc (Row.alloc (by with_reducible assumption) _) _⟩) | (with_reducible refine Row.other ?_ (by first | omega | (simp; done) | (simp; omega)) _)))
  have c_y_0_2 := R_y_2.cell 0 rfl
  have c_y_1_2 := R_y_2.cell 1 rfl
  have l_y_2 := R_y_2.lt
  have R_s_2 : Row w2 (w.heap.size + 4) [.int .i64 (0), .int .i64 (3), .slice (some ⟨w.heap.size + 2, 0, none⟩) 2 2, .slice (some ⟨w.heap.size + 3, 0, none⟩) 2 2] := by (repeat' (first | (with_reducible assumption) | (with_reducible refine Row.new' _ _ _ (by first | rfl | (simp; done) | omega)) | (with_reducible refine Row.alloc ?_ _) | (with_reducible refine Row.drew ?_) | (with_reducible refine Row.drewN ?_ _) | (with_reducible refine Row.step ?_ (by with_reducible assumption)) | (with_reducible refine Row.set2' ?_ _ _; first | exact ⟨_, _, by with_reducible assumption⟩ | exact ⟨_, _, Row.alloc (by with_reducible assumption) _⟩ | exact ⟨_, _, Row.alloc (Row.alloc (by with_reducible assumption) _) _⟩) | (with_reducible refine Row.other ?_ (by first | omega | (simp; done) | (simp; omega)) _)))
  have c_s_0_2 := R_s_2.cell 0 rfl
  have c_s_1_2 := R_s_2.cell 1 rfl
  have c_s_2_2 := R_s_2.cell 2 rfl
  have c_s_3_2 := R_s_2.cell 3 rfl
  have l_s_2 := R_s_2.lt
  have HB2 : Below w.heap.size w w2 := by (repeat' (first | (with_reducible exact Below.refl _ _) | (with_reducible assumption) | (with_reducible exact Bw.out (by with_reducible assumption)) | (with_reducible refine bw_alloc ?_ _) | (with_reducible refine bw_step ?_ (by with_reducible assumption)) | (with_reducible refine Below.alloc ?_ ?_ _) | (with_reducible refine Below.drew ?_) | (with_reducible refine below_drewN ?_ _) | (with_reducible refine Below.setCell ?_ ?_ _) | (with_reducible refine below_step ?_ (by with_reducible assumption) ?_) | (with_reducible exact Nat.le_refl _) | omega | (simp; omega) | (simp; done)))
  clear R_l_1 c_l_0_1 c_l_1_1 c_l_2_1 R_n_1 c_n_0_1 c_n_1_1 c_n_2_1 R_c_1 c_c_0_1 c_c_1_1 R_y_1 c_y_0_1 c_y_1_1 R_s_1 c_s_0_1 c_s_1_1 c_s_2_1 c_s_3_1 hb1 HB1
  go_wp2_with fail
  refine (hd_count _ _ _ ad cp _ (by (repeat' (first | (with_reducible assumption) | (with_reducible refine Row.new' _ _ _ (by first | rfl | (simp; done) | omega)) | (with_reducible refine Row.alloc ?_ _) | (with_reducible refine Row.drew ?_) | (with_reducible refine Row.drewN ?_ _) | (with_reducible refine Row.step ?_ (by with_reducible assumption))))) (by (repeat' (first | (with_reducible assumption) | (with_reducible refine Row.new' _ _ _ (by first | rfl | (simp; done) | omega)) | (with_reducible refine Row.alloc ?_ _) | (with_reducible refine Row.drew ?_) | (with_reducible refine Row.drewN ?_ _) | (with_reducible refine Row.step ?_ (by with_reducible assumption))))) (KS.step (by (repeat' (first | (with_reducible exact Below.refl _ _) | (with_reducible assumption) | (with_reducible exact Bw.out (by with_reducible assumption)) | (with_reducible refine bw_alloc ?_ _) | (with_reducible refine bw_step ?_ (by with_reducible assumption)) | (with_reducible refine Below.alloc ?_ ?_ _) | (with_reducible refine Below.drew ?_) | (with_reducible refine below_drewN ?_ _) | (with_reducible refine Below.setCell ?_ ?_ _) | (with_reducible refine below_step ?_ (by with_reducible assumption) ?_) | (with_reducible exact Nat.le_refl _) | omega | (simp; omega) | (simp; done))))) (by (repeat' (first | (with_reducible assumption) | (with_reducible refine Row.new' _ _ _ (by first | rfl | (simp; done) | omega)) | (with_reducible refine Row.alloc ?_ _) | (with_reducible refine Row.drew ?_) | (with_reducible refine Row.drewN ?_ _) | (with_reducible refine Row.step ?_ (by with_reducible assumption)))))).mono ?_
  rintro e w3 ⟨gm, rfl, KM, hb3⟩
  have R_l_3 : Row w3 (w.heap.size) [.int .i64 (3), .int .i64 (1), .int .i64 (2)] := by (repeat' (first | (with_reducible assumption) | (with_reducible refine Row.new' _ _ _ (by first | rfl | (simp; done) | omega)) | (with_reducible refine Row.alloc ?_ _) | (with_reducible refine Row.drew ?_) | (with_reducible refine Row.drewN ?_ _) | (with_reducible refine Row.step ?_ (by with_reducible assumption)) | (with_reducible refine Row.set2' ?_ _ _; first | exact ⟨_, _, by with_reducible assumption⟩ | exact ⟨_, _, Row.alloc (by with_reducible assumption) _⟩ | exact ⟨_, _, Row.alloc (Row.alloc (by with_reducible assumption) _) _⟩) | (with_reducible refine Row.other ?_ (by first | omega | (simp; done) | (simp; omega)) _)))
  have c_l_0_3 := R_l_3.cell 0 rfl
  have c_l_1_3 := R_l_3.cell 1 rfl
  have c_l_2_3 := R_l_3.cell 2 rfl
  have l_l_3 := R_l_3.lt
  have R_n_3 : Row w3 (w.heap.size + 1) [.int .i64 (10), .int .i64 (9), .slice (some ⟨w.heap.size, 0, none⟩) 3 3] := by (repeat' (first | (with_reducible assumption) | (with_reducible refine Row.new' _ _ _ (by first | rfl | (simp; done) | omega)) | (with_reducible refine Row.alloc ?_ _) | (with_reducible refine Row.drew ?_) | (with_reducible refine Row.drewN ?_ _) | (with_reducible refine Row.step ?_ (by with_reducible assumption)) | (with_reducible refine Row.set2' ?_ _ _; first | exact ⟨_, _, by with_reducible assumption⟩ | exact ⟨_, _, Row.alloc (by with_reducible assumption) _⟩ | exact ⟨_, _, Row.alloc (Row.alloc (by with_reducible assumption) _) _⟩) | (with_reducible refine Row.other ?_ (by first | omega | (simp; done) | (simp; omega)) _)))
  have c_n_0_3 := R_n_3.cell 0 rfl
  have c_n_1_3 := R_n_3.cell 1 rfl
  have c_n_2_3 := R_n_3.cell 2 rfl
  have l_n_3 := R_n_3.lt
  have R_c_3 : Row w3 (w.heap.size + 2) [.int .i64 (0), .int .i64 (2)] := by (repeat' (first | (with_reducible assumption) | (with_reducible refine Row.new' _ _ _ (by first | rfl | (simp; done) | omega)) | (with_reducible refine Row.alloc ?_ _) | (with_reducible refine Row.drew ?_) | (with_reducible refine Row.drewN ?_ _) | (with_reducible refine Row.step ?_ (by with_reducible assumption)) | (with_reducible refine Row.set2' ?_ _ _; first | exact ⟨_, _, by with_reducible assumption⟩ | exact ⟨_, _, Row.alloc (by with_reducible assumption) _⟩ | exact ⟨_, _, Row.alloc (Row.alloc (by with_reducible assumption) _) _⟩) | (with_reducible refine Row.other ?_ (by first | omega | (simp; done) | (simp; omega)) _)))
  have c_c_0_3 := R_c_3.cell 0 rfl
  have c_c_1_3 := R_c_3.cell 1 rfl
  have l_c_3 := R_c_3.lt
  have R_y_3 : Row w3 (w.heap.size + 3) [.int .i64 (3), .int .i64 (1)] := by (repeat' (first | (with_reducible assumption) | (with_reducible refine Row.new' _ _ _ (by first | rfl | (simp; done) | omega)) | (with_reducible refine Row.alloc ?_ _) | (with_reducible refine Row.drew ?_) | (with_reducible refine Row.drewN ?_ _) | (with_reducible refine Row.step ?_ (by with_reducible assumption)) | (with_reducible refine Row.set2' ?_ _ _; first | exact ⟨_, _, by with_reducible assumption⟩ | exact ⟨_, _, Row.alloc (by with_reducible assumption) _⟩ | exact ⟨_, _, Row.alloc (Row.alloc (by with_reducible assumption) _) _⟩) | (with_reducible refine Row.other ?_ (by first | omega | (simp; done) | (simp; omega)) _)))
  have c_y_0_3 := R_y_3.cell 0 rfl
  have c_y_1_3 := R_y_3.cell 1 rfl
  have l_y_3 := R_y_3.lt
  have R_s_3 : Row w3 (w.heap.size + 4) [.int .i64 (0), .int .i64 (3), .slice (some ⟨w.heap.size + 2, 0, none⟩) 2 2, .slice (some ⟨w.heap.size + 3, 0, none⟩) 2 2] := by (repeat' (first | (with_reducible assumption) | (with_reducible refine Row.new' _ _ _ (by first | rfl | (simp; done) | omega)) | (with_reducible refine Row.alloc ?_ _) | (with_reducible refine Row.drew ?_) | (with_reducible refine Row.drewN ?_ _) | (with_reducible refine Row.step ?_ (by with_reducible assumption)) | (with_reducible refine Row.set2' ?_ _ _; first | exact ⟨_, _, by with_reducible assumption⟩ | exact ⟨_, _, Row.alloc (by with_reducible assumption) _⟩ | exact ⟨_, _, Row.alloc (Row.alloc (by with_reducible assumption) _) _⟩) | (with_reducible refine Row.other ?_ (by first | omega | (simp; done) | (simp; omega)) _)))
  have c_s_0_3 := R_s_3.cell 0 rfl
  have c_s_1_3 := R_s_3.cell 1 rfl
  have c_s_2_3 := R_s_3.cell 2 rfl
  have c_s_3_3 := R_s_3.cell 3 rfl
  have l_s_3 := R_s_3.lt
  have R_a_3 : Row w3 (w2.heap.size) [.int .i64 (1), .int .i64 (13)] := by (repeat' (first | (with_reducible assumption) | (with_reducible refine Row.new' _ _ _ (by first | rfl | (simp; done) | omega)) | (with_reducible refine Row.alloc ?_ _) | (with_reducible refine Row.drew ?_) | (with_reducible refine Row.drewN ?_ _) | (with_reducible refine Row.step ?_ (by with_reducible assumption)) | (with_reducible refine Row.set2' ?_ _ _; first | exact ⟨_, _, by with_reducible assumption⟩ | exact ⟨_, _, Row.alloc (by with_reducible assumption) _⟩ | exact ⟨_, _, Row.alloc (Row.alloc (by with_reducible assumption) _) _⟩) | (with_reducible refine Row.other ?_ (by first | omega | (simp; done) | (simp; omega)) _)))
  have c_a_0_3 := R_a_3.cell 0 rfl
  have c_a_1_3 := R_a_3.cell 1 rfl
  have l_a_3 := R_a_3.lt
  replace KS := KS.step (show Below w2.heap.size w2 w3 by (repeat' (first | (with_reducible exact Below.refl _ _) | (with_reducible assumption) | (with_reducible exact Bw.out (by with_reducible assumption)) | (with_reducible refine bw_alloc ?_ _) | (with_reducible refine bw_step ?_ (by with_reducible assumption)) | (with_reducible refine Below.alloc ?_ ?_ _) | (with_reducible refine Below.drew ?_) | (with_reducible refine below_drewN ?_ _) | (with_reducible refine Below.setCell ?_ ?_ _) | (with_reducible refine below_step ?_ (by with_reducible assumption) ?_) | (with_reducible exact Nat.le_refl _) | omega | (simp; omega) | (simp; done))))
  have HB3 : Below w.heap.size w w3 := by (repeat' (first | (with_reducible exact Below.refl _ _) | (with_reducible assumption) | (with_reducible exact Bw.out (by with_reducible assumption)) | (with_reducible refine bw_alloc ?_ _) | (with_reducible refine bw_step ?_ (by with_reducible assumption)) | (with_reducible refine Below.alloc ?_ ?_ _) | (with_reducible refine Below.drew ?_) | (with_reducible refine below_drewN ?_ _) | (with_reducible refine Below.setCell ?_ ?_ _) | (with_reducible refine below_step ?_ (by with_reducible assumption) ?_) | (with_reducible exact Nat.le_refl _) | omega | (simp; omega) | (simp; done)))
  clear R_l_2 c_l_0_2 c_l_1_2 c_l_2_2 R_n_2 c_n_0_2 c_n_1_2 c_n_2_2 R_c_2 c_c_0_2 c_c_1_2 R_y_2 c_y_0_2 c_y_1_2 R_s_2 c_s_0_2 c_s_1_2 c_s_2_2 c_s_3_2 hb2 HB2
  go_wp2_with fail
  refine (hd_bad _ _ _ _ _ (by (repeat' (first | (with_reducible assumption) | (with_reducible refine Row.new' _ _ _ (by first | rfl | (simp; done) | omega)) | (with_reducible refine Row.alloc ?_ _) | (with_reducible refine Row.drew ?_) | (with_reducible refine Row.drewN ?_ _) | (with_reducible refine Row.step ?_ (by with_reducible assumption))))) (by (repeat' (first | (with_reducible assumption) | (with_reducible refine Row.new' _ _ _ (by first | rfl | (simp; done) | omega)) | (with_reducible refine Row.alloc ?_ _) | (with_reducible refine Row.drew ?_) | (with_reducible refine Row.drewN ?_ _) | (with_reducible refine Row.step ?_ (by with_reducible assumption))))) (by (repeat' (first | (with_reducible assumption) | (with_reducible refine Row.new' _ _ _ (by first | rfl | (simp; done) | omega)) | (with_reducible refine Row.alloc ?_ _) | (with_reducible refine Row.drew ?_) | (with_reducible refine Row.drewN ?_ _) | (with_reducible refine Row.step ?_ (by with_reducible assumption))))) (by (repeat' (first | (with_reducible assumption) | (with_reducible refine Row.new' _ _ _ (by first | rfl | (simp; done) | omega)) | (with_reducible refine Row.alloc ?_ _) | (with_reducible refine Row.drew ?_) | (with_reducible refine Row.drewN ?_ _) | (with_reducible refine Row.step ?_ (by with_reducible assumption)))))).mono ?_
  rintro e w4 ⟨rfl, hb4⟩
  have R_l_4 : Row w4 (w.heap.size) [.int .i64 (3), .int .i64 (1), .int .i64 (2)] := by (repeat' (first | (with_reducible assumption) | (with_reducible refine Row.new' _ _ _ (by first | rfl | (simp; done) | omega)) | (with_reducible refine Row.alloc ?_ _) | (with_reducible refine Row.drew ?_) | (with_reducible refine Row.drewN ?_ _) | (with_reducible refine Row.step ?_ (by with_reducible assumption)) | (with_reducible refine Row.set2' ?_ _ _; first | exact ⟨_, _, by with_reducible assumption⟩ | exact ⟨_, _, Row.alloc (by with_reducible assumption) _⟩ | exact ⟨_, _, Row.alloc (Row.alloc (by with_reducible assumption) _) _⟩) | (with_reducible refine Row.other ?_ (by first | omega | (simp; done) | (simp; omega)) _)))
  have c_l_0_4 := R_l_4.cell 0 rfl
  have c_l_1_4 := R_l_4.cell 1 rfl
  have c_l_2_4 := R_l_4.cell 2 rfl
  have l_l_4 := R_l_4.lt
  have R_n_4 : Row w4 (w.heap.size + 1) [.int .i64 (10), .int .i64 (9), .slice (some ⟨w.heap.size, 0, none⟩) 3 3] := by (repeat' (first | (with_reducible assumption) | (with_reducible refine Row.new' _ _ _ (by first | rfl | (simp; done) | omega)) | (with_reducible refine Row.alloc ?_ _) | (with_reducible refine Row.drew ?_) | (with_reducible refine Row.drewN ?_ _) | (with_reducible refine Row.step ?_ (by with_reducible assumption)) | (with_reducible refine Row.set2' ?_ _ _; first | exact ⟨_, _, by with_reducible assumption⟩ | exact ⟨_, _, Row.alloc (by with_reducible assumption) _⟩ | exact ⟨_, _, Row.alloc (Row.alloc (by with_reducible assumption) _) _⟩) | (with_reducible refine Row.other ?_ (by first | omega | (simp; done) | (simp; omega)) _)))
  have c_n_0_4 := R_n_4.cell 0 rfl
  have c_n_1_4 := R_n_4.cell 1 rfl
  have c_n_2_4 := R_n_4.cell 2 rfl
  have l_n_4 := R_n_4.lt
  have R_c_4 : Row w4 (w.heap.size + 2) [.int .i64 (0), .int .i64 (2)] := by (repeat' (first | (with_reducible assumption) | (with_reducible refine Row.new' _ _ _ (by first | rfl | (simp; done) | omega)) | (with_reducible refine Row.alloc ?_ _) | (with_reducible refine Row.drew ?_) | (with_reducible refine Row.drewN ?_ _) | (with_reducible refine Row.step ?_ (by with_reducible assumption)) | (with_reducible refine Row.set2' ?_ _ _; first | exact ⟨_, _, by with_reducible assumption⟩ | exact ⟨_, _, Row.alloc (by with_reducible assumption) _⟩ | exact ⟨_, _, Row.alloc (Row.alloc (by with_reducible assumption) _) _⟩) | (with_reducible refine Row.other ?_ (by first | omega | (simp; done) | (simp; omega)) _)))
  have c_c_0_4 := R_c_4.cell 0 rfl
  have c_c_1_4 := R_c_4.cell 1 rfl
  have l_c_4 := R_c_4.lt
  have R_y_4 : Row w4 (w.heap.size + 3) [.int .i64 (3), .int .i64 (1)] := by (repeat' (first | (with_reducible assumption) | (with_reducible refine Row.new' _ _ _ (by first | rfl | (simp; done) | omega)) | (with_reducible refine Row.alloc ?_ _) | (with_reducible refine Row.drew ?_) | (with_reducible refine Row.drewN ?_ _) | (with_reducible refine Row.step ?_ (by with_reducible assumption)) | (with_reducible refine Row.set2' ?_ _ _; first | exact ⟨_, _, by with_reducible assumption⟩ | exact ⟨_, _, Row.alloc (by with_reducible assumption) _⟩ | exact ⟨_, _, Row.alloc (Row.alloc (by with_reducible assumption) _) _⟩) | (with_reducible refine Row.other ?_ (by first | omega | (simp; done) | (simp; omega)) _)))
  have c_y_0_4 := R_y_4.cell 0 rfl
  have c_y_1_4 := R_y_4.cell 1 rfl
  have l_y_4 := R_y_4.lt
  have R_s_4 : Row w4 (w.heap.size + 4) [.int .i64 (0), .int .i64 (3), .slice (some ⟨w.heap.size + 2, 0, none⟩) 2 2, .slice (some ⟨w.heap.size + 3, 0, none⟩) 2 2] := by (repeat' (first | (with_reducible assumption) | (with_reducible refine Row.new' _ _ _ (by first | rfl | (simp; done) | omega)) | (with_reducible refine Row.alloc ?_ _) | (with_reducible refine Row.drew ?_) | (with_reducible refine Row.drewN ?_ _) | (with_reducible refine Row.step ?_ (by with_reducible assumption)) | (with_reducible refine Row.set2' ?_ _ _; first | exact ⟨_, _, by with_reducible assumption⟩ | exact ⟨_, _, Row.alloc (by with_reducible assumption) _⟩ | exact ⟨_, _, Row.alloc (Row.alloc (by with_reducible assumption) _) _⟩) | (with_reducible refine Row.other ?_ (by first | omega | (simp; done) | (simp; omega)) _)))
  have c_s_0_4 := R_s_4.cell 0 rfl
  have c_s_1_4 := R_s_4.cell 1 rfl
  have c_s_2_4 := R_s_4.cell 2 rfl
  have c_s_3_4 := R_s_4.cell 3 rfl
  have l_s_4 := R_s_4.lt
  have R_a_4 : Row w4 (w2.heap.size) [.int .i64 (1), .int .i64 (13)] := by (repeat' (first | (with_reducible assumption) | (with_reducible refine Row.new' _ _ _ (by first | rfl | (simp; done) | omega)) | (with_reducible refine Row.alloc ?_ _) | (with_reducible refine Row.drew ?_) | (with_reducible refine Row.drewN ?_ _) | (with_reducible refine Row.step ?_ (by with_reducible assumption)) | (with_reducible refine Row.set2' ?_ _ _; first | exact ⟨_, _, by with_reducible assumption⟩ | exact ⟨_, _, Row.alloc (by with_reducible assumption) _⟩ | exact ⟨_, _, Row.alloc (Row.alloc (by with_reducible assumption) _) _⟩) | (with_reducible refine Row.other ?_ (by first | omega | (simp; done) | (simp; omega)) _)))
  have c_a_0_4 := R_a_4.cell 0 rfl
  have c_a_1_4 := R_a_4.cell 1 rfl
  have l_a_4 := R_a_4.lt
  replace KS := KS.step (show Below w3.heap.size w3 w4 by (repeat' (first | (with_reducible exact Below.refl _ _) | (with_reducible assumption) | (with_reducible exact Bw.out (by with_reducible assumption)) | (with_reducible refine bw_alloc ?_ _) | (with_reducible refine bw_step ?_ (by with_reducible assumption)) | (with_reducible refine Below.alloc ?_ ?_ _) | (with_reducible refine Below.drew ?_) | (with_reducible refine below_drewN ?_ _) | (with_reducible refine Below.setCell ?_ ?_ _) | (with_reducible refine below_step ?_ (by with_reducible assumption) ?_) | (with_reducible exact Nat.le_refl _) | omega | (simp; omega) | (simp; done))))
  replace KM := KM.step (show Below w3.heap.size w3 w4 by (repeat' (first | (with_reducible exact Below.refl _ _) | (with_reducible assumption) | (with_reducible exact Bw.out (by with_reducible assumption)) | (with_reducible refine bw_alloc ?_ _) | (with_reducible refine bw_step ?_ (by with_reducible assumption)) | (with_reducible refine Below.alloc ?_ ?_ _) | (with_reducible refine Below.drew ?_) | (with_reducible refine below_drewN ?_ _) | (with_reducible refine Below.setCell ?_ ?_ _) | (with_reducible refine below_step ?_ (by with_reducible assumption) ?_) | (with_reducible exact Nat.le_refl _) | omega | (simp; omega) | (simp; done))))
  have HB4 : Below w.heap.size w w4 := by (repeat' (first | (with_reducible exact Below.refl _ _) | (with_reducible assumption) | (with_reducible exact Bw.out (by with_reducible assumption)) | (with_reducible refine bw_alloc ?_ _) | (with_reducible refine bw_step ?_ (by with_reducible assumption)) | (with_reducible refine Below.alloc ?_ ?_ _) | (with_reducible refine Below.drew ?_) | (with_reducible refine below_drewN ?_ _) | (with_reducible refine Below.setCell ?_ ?_ _) | (with_reducible refine below_step ?_ (by with_reducible assumption) ?_) | (with_reducible exact Nat.le_refl _) | omega | (simp; omega) | (simp; done)))
  clear R_l_3 c_l_0_3 c_l_1_3 c_l_2_3 R_n_3 c_n_0_3 c_n_1_3 c_n_2_3 R_c_3 c_c_0_3 c_c_1_3 R_y_3 c_y_0_3 c_y_1_3 R_s_3 c_s_0_3 c_s_1_3 c_s_2_3 c_s_3_3 R_a_3 c_a_0_3 c_a_1_3 hb3 HB3
  go_upto_region 10 with fail
  obtain ⟨wz, hwz⟩ : ∃ W, w4.alloc (.cells #[.int .i64 13, .int .i64 2, .int .i64 13, .bool true, .int .i64 4, .int .i64 0, .int .i64 1, .int .i64 1] 44) = W := ⟨_, rfl⟩
  have hbz : Below w4.heap.size w4 wz := by rw [← hwz]; (repeat' (first | (with_reducible exact Below.refl _ _) | (with_reducible assumption) | (with_reducible exact Bw.out (by with_reducible assumption)) | (with_reducible refine bw_alloc ?_ _) | (with_reducible refine bw_step ?_ (by with_reducible assumption)) | (with_reducible refine Below.alloc ?_ ?_ _) | (with_reducible refine Below.drew ?_) | (with_reducible refine below_drewN ?_ _) | (with_reducible refine Below.setCell ?_ ?_ _) | (with_reducible refine below_step ?_ (by with_reducible assumption) ?_) | (with_reducible exact Nat.le_refl _) | omega | (simp; omega) | (simp; done)))
  have RZ : Row wz w4.heap.size [.int .i64 13, .int .i64 2, .int .i64 13, .bool true, .int .i64 4, .int .i64 0, .int .i64 1, .int .i64 1] := by rw [← hwz]; exact Row.new' w4 [.int .i64 13, .int .i64 2, .int .i64 13, .bool true, .int .i64 4, .int .i64 0, .int .i64 1, .int .i64 1] _ rfl
  try rw [hwz]
  obtain ⟨gz, hgz⟩ : ∃ g, w4.heap.size = g := ⟨_, rfl⟩
  rw [hgz] at RZ
  try rw [hgz]
  have RS := R_s_4.step hbz
  have RL := R_l_4.step hbz
  have RN := R_n_4.step hbz
  have RC := R_c_4.step hbz
  have RY := R_y_4.step hbz
  have KZ := KS.step hbz
  have KMZ := KM.step hbz
  have HBZ : Hid (Below w.heap.size w wz) := HB4.trans (hbz.mono HB4.size)
  obtain ⟨bs, os, had, k12⟩ := KZ.2 12 ⟨13, 2, 13, true, 4, 0, 1, 1⟩ (by kernel_rfl)
  subst had
  have k8 : ∀ j v, (saleCells ⟨9, 0, 9, false, 4, 0, 1, 1⟩)[j]? = some v → wz.cell? ⟨bs, os + 8 * 8 + j, none⟩ = some v := by
    obtain ⟨b', o', e, k⟩ := KZ.2 8 ⟨9, 0, 9, false, 4, 0, 1, 1⟩ (by kernel_rfl)
    cases e
    exact k
  have k9 : ∀ j v, (saleCells ⟨10, 0, 10, true, 4, 0, 1, 1⟩)[j]? = some v → wz.cell? ⟨bs, os + 9 * 8 + j, none⟩ = some v := by
    obtain ⟨b', o', e, k⟩ := KZ.2 9 ⟨10, 0, 10, true, 4, 0, 1, 1⟩ (by kernel_rfl)
    cases e
    exact k
  have hbs : bs < wz.heap.size := World.block_lt_of_cell? wz _ (k12 0 _ rfl)
  have HK : Hid (∀ w', Below wz.heap.size wz w' → w'.cell? ⟨bs, os + 12 * 8, none⟩ = some (.int .i64 13) ∧ w'.cell? ⟨bs, os + 12 * 8 + 1, none⟩ = some (.int .i64 2) ∧ w'.cell? ⟨bs, os + 12 * 8 + 2, none⟩ = some (.int .i64 13) ∧ w'.cell? ⟨bs, os + 12 * 8 + 3, none⟩ = some (.bool true) ∧ w'.cell? ⟨bs, os + 12 * 8 + 4, none⟩ = some (.int .i64 4) ∧ w'.cell? ⟨bs, os + 12 * 8 + 5, none⟩ = some (.int .i64 0) ∧ w'.cell? ⟨bs, os + 12 * 8 + 6, none⟩ = some (.int .i64 1) ∧ w'.cell? ⟨bs, os + 12 * 8 + 7, none⟩ = some (.int .i64 1) ∧ w'.cell? ⟨gz, 0, none⟩ = some (.int .i64 13) ∧ w'.cell? ⟨gz, 1, none⟩ = some (.int .i64 2) ∧ w'.cell? ⟨gz, 2, none⟩ = some (.int .i64 13) ∧ w'.cell? ⟨gz, 3, none⟩ = some (.bool true) ∧ w'.cell? ⟨gz, 4, none⟩ = some (.int .i64 4) ∧ w'.cell? ⟨gz, 5, none⟩ = some (.int .i64 0) ∧ w'.cell? ⟨gz, 6, none⟩ = some (.int .i64 1) ∧ w'.cell? ⟨gz, 7, none⟩ = some (.int .i64 1) ∧ w'.cell? ⟨bs, os + 8 * 8 + 3, none⟩ = some (.bool false) ∧ w'.cell? ⟨bs, os + 9 * 8 + 3, none⟩ = some (.bool true) ∧ w'.cell? ⟨w.heap.size + 4, 0, none⟩ = some (.int .i64 0) ∧ w'.cell? ⟨w.heap.size + 4, 1, none⟩ = some (.int .i64 3) ∧ w'.cell? ⟨w.heap.size + 4, 2, none⟩ = some (.slice (some ⟨w.heap.size + 2, 0, none⟩) 2 2) ∧ w'.cell? ⟨w.heap.size + 4, 3, none⟩ = some (.slice (some ⟨w.heap.size + 3, 0, none⟩) 2 2)) := fun w' hb => ⟨(hb.cell (p := ⟨bs, os + 12 * 8, none⟩) hbs).trans (k12 0 _ rfl), (hb.cell (p := ⟨bs, os + 12 * 8 + 1, none⟩) hbs).trans (k12 1 _ rfl), (hb.cell (p := ⟨bs, os + 12 * 8 + 2, none⟩) hbs).trans (k12 2 _ rfl), (hb.cell (p := ⟨bs, os + 12 * 8 + 3, none⟩) hbs).trans (k12 3 _ rfl), (hb.cell (p := ⟨bs, os + 12 * 8 + 4, none⟩) hbs).trans (k12 4 _ rfl), (hb.cell (p := ⟨bs, os + 12 * 8 + 5, none⟩) hbs).trans (k12 5 _ rfl), (hb.cell (p := ⟨bs, os + 12 * 8 + 6, none⟩) hbs).trans (k12 6 _ rfl), (hb.cell (p := ⟨bs, os + 12 * 8 + 7, none⟩) hbs).trans (k12 7 _ rfl), (RZ.step hb).cell 0 rfl, (RZ.step hb).cell 1 rfl, (RZ.step hb).cell 2 rfl, (RZ.step hb).cell 3 rfl, (RZ.step hb).cell 4 rfl, (RZ.step hb).cell 5 rfl, (RZ.step hb).cell 6 rfl, (RZ.step hb).cell 7 rfl, (hb.cell (p := ⟨bs, os + 8 * 8 + 3, none⟩) hbs).trans (k8 3 _ rfl), (hb.cell (p := ⟨bs, os + 9 * 8 + 3, none⟩) hbs).trans (k9 3 _ rfl), (RS.step hb).cell 0 rfl, (RS.step hb).cell 1 rfl, (RS.step hb).cell 2 rfl, (RS.step hb).cell 3 rfl⟩
  have HRS := Lib.hid RS
  have HRL := Lib.hid RL
  have HRN := Lib.hid RN
  have HRC := Lib.hid RC
  have HRY := Lib.hid RY
  have HKM := Lib.hid KMZ
  clear hwz hbz hgz RS RL RN RC RY KZ KMZ k12 k8 k9 hbs RZ KS KM HB4 hb4 R_l_4 R_n_4 R_c_4 R_y_4 R_s_4 R_a_4
  have hbc : Below wz.heap.size wz wz.drew := (Below.refl _ wz).drew
  refine AnyJ.beginP (fun w' : World => w'.cell? ⟨bs, os + 12 * 8, none⟩ = some (.int .i64 13) ∧ w'.cell? ⟨bs, os + 12 * 8 + 1, none⟩ = some (.int .i64 2) ∧ w'.cell? ⟨bs, os + 12 * 8 + 2, none⟩ = some (.int .i64 13) ∧ w'.cell? ⟨bs, os + 12 * 8 + 3, none⟩ = some (.bool true) ∧ w'.cell? ⟨bs, os + 12 * 8 + 4, none⟩ = some (.int .i64 4) ∧ w'.cell? ⟨bs, os + 12 * 8 + 5, none⟩ = some (.int .i64 0) ∧ w'.cell? ⟨bs, os + 12 * 8 + 6, none⟩ = some (.int .i64 1) ∧ w'.cell? ⟨bs, os + 12 * 8 + 7, none⟩ = some (.int .i64 1) ∧ w'.cell? ⟨gz, 0, none⟩ = some (.int .i64 13) ∧ w'.cell? ⟨gz, 1, none⟩ = some (.int .i64 2) ∧ w'.cell? ⟨gz, 2, none⟩ = some (.int .i64 13) ∧ w'.cell? ⟨gz, 3, none⟩ = some (.bool true) ∧ w'.cell? ⟨gz, 4, none⟩ = some (.int .i64 4) ∧ w'.cell? ⟨gz, 5, none⟩ = some (.int .i64 0) ∧ w'.cell? ⟨gz, 6, none⟩ = some (.int .i64 1) ∧ w'.cell? ⟨gz, 7, none⟩ = some (.int .i64 1) ∧ w'.cell? ⟨bs, os + 8 * 8 + 3, none⟩ = some (.bool false) ∧ w'.cell? ⟨bs, os + 9 * 8 + 3, none⟩ = some (.bool true) ∧ w'.cell? ⟨w.heap.size + 4, 0, none⟩ = some (.int .i64 0) ∧ w'.cell? ⟨w.heap.size + 4, 1, none⟩ = some (.int .i64 3) ∧ w'.cell? ⟨w.heap.size + 4, 2, none⟩ = some (.slice (some ⟨w.heap.size + 2, 0, none⟩) 2 2) ∧ w'.cell? ⟨w.heap.size + 4, 3, none⟩ = some (.slice (some ⟨w.heap.size + 3, 0, none⟩) 2 2)) (fun _ => true) (by kernel_rfl) (HK.out _ hbc) (fun hS => ?_)
  clear hS
  refine AnyJ.takeD (i := 0) (d := some 64) (v := ?_) rfl (by kernel_rfl) (by kernel_rfl) (by kernel_rfl) (by kernel_rfl) (by kernel_rfl) (fun _ _ _ h => h) (Or.inl ⟨by kernel_rfl, ?_⟩) (HK.out _ hbc) ?_
  rotate_left
  · intro w' hS
    obtain ⟨sF0, sF1, sF2, sF3, sF4, sF5, sF6, sF7, sG0, sG1, sG2, sG3, sG4, sG5, sG6, sG7, sH0, sH1, sK0, sK1, sK2, sK3⟩ := hS
    go_simp
    try with_reducible rfl
  refine AnyJ.takeD (i := 1) (d := some 65) (v := ?_) rfl (by kernel_rfl) (by kernel_rfl) (by kernel_rfl) (by kernel_rfl) (by kernel_rfl) (fun _ _ _ h => h) (Or.inl ⟨by kernel_rfl, ?_⟩) (HK.out _ hbc) ?_
  rotate_left
  · intro w' hS
    obtain ⟨sF0, sF1, sF2, sF3, sF4, sF5, sF6, sF7, sG0, sG1, sG2, sG3, sG4, sG5, sG6, sG7, sH0, sH1, sK0, sK1, sK2, sK3⟩ := hS
    go_simp
    try with_reducible rfl
  refine AnyJ.takeD (i := 2) (d := some 66) (v := ?_) rfl (by kernel_rfl) (by kernel_rfl) (by kernel_rfl) (by kernel_rfl) (by kernel_rfl) (fun _ _ _ h => h) (Or.inl ⟨by kernel_rfl, ?_⟩) (HK.out _ hbc) ?_
  rotate_left
  · intro w' hS
    obtain ⟨sF0, sF1, sF2, sF3, sF4, sF5, sF6, sF7, sG0, sG1, sG2, sG3, sG4, sG5, sG6, sG7, sH0, sH1, sK0, sK1, sK2, sK3⟩ := hS
    go_simp
    try with_reducible rfl
  refine AnyJ.takeD (i := 3) (d := some 67) (v := ?_) rfl (by kernel_rfl) (by kernel_rfl) (by kernel_rfl) (by kernel_rfl) (by kernel_rfl) (fun _ _ _ h => h) (Or.inl ⟨by kernel_rfl, ?_⟩) (HK.out _ hbc) ?_
  rotate_left
  · intro w' hS
    obtain ⟨sF0, sF1, sF2, sF3, sF4, sF5, sF6, sF7, sG0, sG1, sG2, sG3, sG4, sG5, sG6, sG7, sH0, sH1, sK0, sK1, sK2, sK3⟩ := hS
    go_simp
    try with_reducible rfl
  refine AnyJ.one (i := 4) (by kernel_rfl) rfl (fun Kz hKz => ?_)
  go_simp
  generalize hwA : (wz.alloc _).drew = wA
  have RA : Row wA wz.heap.size [.int .i64 1] := by rw [← hwA]; exact Row.new' wz [.int .i64 1] _ rfl
  have hbA : Below wz.heap.size wz wA := by rw [← hwA]; (repeat' (first | (with_reducible exact Below.refl _ _) | (with_reducible assumption) | (with_reducible exact Bw.out (by with_reducible assumption)) | (with_reducible refine bw_alloc ?_ _) | (with_reducible refine bw_step ?_ (by with_reducible assumption)) | (with_reducible refine Below.alloc ?_ ?_ _) | (with_reducible refine Below.drew ?_) | (with_reducible refine below_drewN ?_ _) | (with_reducible refine Below.setCell ?_ ?_ _) | (with_reducible refine below_step ?_ (by with_reducible assumption) ?_) | (with_reducible exact Nat.le_refl _) | omega | (simp; omega) | (simp; done)))
  refine hKz _ _ (fun _ => HK.out _ hbA) ?_
  clear hKz Kz hwA hbc
  refine AnyJ.one (i := 5) (by kernel_rfl) rfl (fun Kz hKz => ?_)
  go_simp
  refine (R22_same _ _ [1] [1] _ (HKM.out.step hbA) ⟨_, _, rfl, SlI.row (rest := []) RA rfl, Nat.le_refl _, by unfold maxLen; simp⟩).mono ?_
  rintro e wB ⟨rfl, hbB⟩
  have hbc : Below wz.heap.size wz wB := hbA.trans (hbB.mono hbA.size)
  refine hKz _ _ (fun _ => HK.out _ hbc) ?_
  clear hKz Kz RA hbA hbB
  simp only [decide_true]
  refine AnyJ.takeD (i := 6) (d := some 70) (v := ?_) rfl (by kernel_rfl) (by kernel_rfl) (by kernel_rfl) (by kernel_rfl) (by kernel_rfl) (fun _ _ _ h => h) (Or.inl ⟨by kernel_rfl, ?_⟩) (HK.out _ hbc) ?_
  rotate_left
  · intro w' hS
    obtain ⟨sF0, sF1, sF2, sF3, sF4, sF5, sF6, sF7, sG0, sG1, sG2, sG3, sG4, sG5, sG6, sG7, sH0, sH1, sK0, sK1, sK2, sK3⟩ := hS
    go_simp
    try with_reducible rfl
  refine AnyJ.takeD (i := 7) (d := some 71) (v := ?_) rfl (by kernel_rfl) (by kernel_rfl) (by kernel_rfl) (by kernel_rfl) (by kernel_rfl) (fun _ _ _ h => h) (Or.inl ⟨by kernel_rfl, ?_⟩) (HK.out _ hbc) ?_
  rotate_left
  · intro w' hS
    obtain ⟨sF0, sF1, sF2, sF3, sF4, sF5, sF6, sF7, sG0, sG1, sG2, sG3, sG4, sG5, sG6, sG7, sH0, sH1, sK0, sK1, sK2, sK3⟩ := hS
    go_simp
    try with_reducible rfl
  refine AnyJ.takeD (i := 8) (d := some 72) (v := ?_) rfl (by kernel_rfl) (by kernel_rfl) (by kernel_rfl) (by kernel_rfl) (by kernel_rfl) (fun _ _ _ h => h) (Or.inl ⟨by kernel_rfl, ?_⟩) (HK.out _ hbc) ?_
  rotate_left
  · intro w' hS
    obtain ⟨sF0, sF1, sF2, sF3, sF4, sF5, sF6, sF7, sG0, sG1, sG2, sG3, sG4, sG5, sG6, sG7, sH0, sH1, sK0, sK1, sK2, sK3⟩ := hS
    go_simp
    try with_reducible rfl
  refine AnyJ.takeD (i := 9) (d := some 73) (v := ?_) rfl (by kernel_rfl) (by kernel_rfl) (by kernel_rfl) (by kernel_rfl) (by kernel_rfl) (fun _ _ _ h => h) (Or.inl ⟨by kernel_rfl, ?_⟩) (HK.out _ hbc) ?_
  rotate_left
  · intro w' hS
    obtain ⟨sF0, sF1, sF2, sF3, sF4, sF5, sF6, sF7, sG0, sG1, sG2, sG3, sG4, sG5, sG6, sG7, sH0, sH1, sK0, sK1, sK2, sK3⟩ := hS
    go_simp
    try with_reducible rfl
  refine AnyJ.takeD (i := 10) (d := some 74) (v := ?_) rfl (by kernel_rfl) (by kernel_rfl) (by kernel_rfl) (by kernel_rfl) (by kernel_rfl) (fun _ _ _ h => h) (Or.inl ⟨by kernel_rfl, ?_⟩) (HK.out _ hbc) ?_
  rotate_left
  · intro w' hS
    obtain ⟨sF0, sF1, sF2, sF3, sF4, sF5, sF6, sF7, sG0, sG1, sG2, sG3, sG4, sG5, sG6, sG7, sH0, sH1, sK0, sK1, sK2, sK3⟩ := hS
    go_simp
    try with_reducible rfl
  refine AnyJ.takeD (i := 11) (d := some 75) (v := ?_) rfl (by kernel_rfl) (by kernel_rfl) (by kernel_rfl) (by kernel_rfl) (by kernel_rfl) (fun _ _ _ h => h) (Or.inl ⟨by kernel_rfl, ?_⟩) (HK.out _ hbc) ?_
  rotate_left
  · intro w' hS
    obtain ⟨sF0, sF1, sF2, sF3, sF4, sF5, sF6, sF7, sG0, sG1, sG2, sG3, sG4, sG5, sG6, sG7, sH0, sH1, sK0, sK1, sK2, sK3⟩ := hS
    go_simp
    try with_reducible rfl
  refine AnyJ.takeD (i := 12) (d := some 76) (v := ?_) rfl (by kernel_rfl) (by kernel_rfl) (by kernel_rfl) (by kernel_rfl) (by kernel_rfl) (fun _ _ _ h => h) (Or.inl ⟨by kernel_rfl, ?_⟩) (HK.out _ hbc) ?_
  rotate_left
  · intro w' hS
    obtain ⟨sF0, sF1, sF2, sF3, sF4, sF5, sF6, sF7, sG0, sG1, sG2, sG3, sG4, sG5, sG6, sG7, sH0, sH1, sK0, sK1, sK2, sK3⟩ := hS
    go_simp
    try with_reducible rfl
  refine AnyJ.takeD (i := 13) (d := some 77) (v := ?_) rfl (by kernel_rfl) (by kernel_rfl) (by kernel_rfl) (by kernel_rfl) (by kernel_rfl) (fun _ _ _ h => h) (Or.inl ⟨by kernel_rfl, ?_⟩) (HK.out _ hbc) ?_
  rotate_left
  · intro w' hS
    obtain ⟨sF0, sF1, sF2, sF3, sF4, sF5, sF6, sF7, sG0, sG1, sG2, sG3, sG4, sG5, sG6, sG7, sH0, sH1, sK0, sK1, sK2, sK3⟩ := hS
    go_simp
    try with_reducible rfl
  refine AnyJ.takeD (i := 14) (d := some 78) (v := ?_) rfl (by kernel_rfl) (by kernel_rfl) (by kernel_rfl) (by kernel_rfl) (by kernel_rfl) (fun _ _ _ h => h) (Or.inl ⟨by kernel_rfl, ?_⟩) (HK.out _ hbc) ?_
  rotate_left
  · intro w' hS
    obtain ⟨sF0, sF1, sF2, sF3, sF4, sF5, sF6, sF7, sG0, sG1, sG2, sG3, sG4, sG5, sG6, sG7, sH0, sH1, sK0, sK1, sK2, sK3⟩ := hS
    go_simp
    try with_reducible rfl
  refine AnyJ.takeD (i := 15) (d := some 79) (v := ?_) rfl (by kernel_rfl) (by kernel_rfl) (by kernel_rfl) (by kernel_rfl) (by kernel_rfl) (fun _ _ _ h => h) (Or.inl ⟨by kernel_rfl, ?_⟩) (HK.out _ hbc) ?_
  rotate_left
  · intro w' hS
    obtain ⟨sF0, sF1, sF2, sF3, sF4, sF5, sF6, sF7, sG0, sG1, sG2, sG3, sG4, sG5, sG6, sG7, sH0, sH1, sK0, sK1, sK2, sK3⟩ := hS
    go_simp
    try with_reducible rfl
  refine AnyJ.takeD (i := 16) (d := some 80) (v := ?_) rfl (by kernel_rfl) (by kernel_rfl) (by kernel_rfl) (by kernel_rfl) (by kernel_rfl) (fun _ _ _ h => h) (Or.inl ⟨by kernel_rfl, ?_⟩) (HK.out _ hbc) ?_
  rotate_left
  · intro w' hS
    obtain ⟨sF0, sF1, sF2, sF3, sF4, sF5, sF6, sF7, sG0, sG1, sG2, sG3, sG4, sG5, sG6, sG7, sH0, sH1, sK0, sK1, sK2, sK3⟩ := hS
    go_simp
    try with_reducible rfl
  refine AnyJ.takeD (i := 17) (d := some 81) (v := ?_) rfl (by kernel_rfl) (by kernel_rfl) (by kernel_rfl) (by kernel_rfl) (by kernel_rfl) (fun _ _ _ h => h) (Or.inl ⟨by kernel_rfl, ?_⟩) (HK.out _ hbc) ?_
  rotate_left
  · intro w' hS
    obtain ⟨sF0, sF1, sF2, sF3, sF4, sF5, sF6, sF7, sG0, sG1, sG2, sG3, sG4, sG5, sG6, sG7, sH0, sH1, sK0, sK1, sK2, sK3⟩ := hS
    go_simp
    try with_reducible rfl
  refine AnyJ.takeD (i := 18) (d := some 82) (v := ?_) rfl (by kernel_rfl) (by kernel_rfl) (by kernel_rfl) (by kernel_rfl) (by kernel_rfl) (fun _ _ _ h => h) (Or.inl ⟨by kernel_rfl, ?_⟩) (HK.out _ hbc) ?_
  rotate_left
  · intro w' hS
    obtain ⟨sF0, sF1, sF2, sF3, sF4, sF5, sF6, sF7, sG0, sG1, sG2, sG3, sG4, sG5, sG6, sG7, sH0, sH1, sK0, sK1, sK2, sK3⟩ := hS
    go_simp
    try with_reducible rfl
  refine AnyJ.takeD (i := 19) (d := some 83) (v := ?_) rfl (by kernel_rfl) (by kernel_rfl) (by kernel_rfl) (by kernel_rfl) (by kernel_rfl) (fun _ _ _ h => h) (Or.inl ⟨by kernel_rfl, ?_⟩) (HK.out _ hbc) ?_
  rotate_left
  · intro w' hS
    obtain ⟨sF0, sF1, sF2, sF3, sF4, sF5, sF6, sF7, sG0, sG1, sG2, sG3, sG4, sG5, sG6, sG7, sH0, sH1, sK0, sK1, sK2, sK3⟩ := hS
    go_simp
    try with_reducible rfl
  refine AnyJ.takeD (i := 20) (d := some 84) (v := ?_) rfl (by kernel_rfl) (by kernel_rfl) (by kernel_rfl) (by kernel_rfl) (by kernel_rfl) (fun _ _ _ h => h) (Or.inl ⟨by kernel_rfl, ?_⟩) (HK.out _ hbc) ?_
  rotate_left
  · intro w' hS
    obtain ⟨sF0, sF1, sF2, sF3, sF4, sF5, sF6, sF7, sG0, sG1, sG2, sG3, sG4, sG5, sG6, sG7, sH0, sH1, sK0, sK1, sK2, sK3⟩ := hS
    go_simp
    try with_reducible rfl
  refine AnyJ.takeD (i := 21) (d := some 85) (v := ?_) rfl (by kernel_rfl) (by kernel_rfl) (by kernel_rfl) (by kernel_rfl) (by kernel_rfl) (fun _ _ _ h => h) (Or.inl ⟨by kernel_rfl, ?_⟩) (HK.out _ hbc) ?_
  rotate_left
  · intro w' hS
    obtain ⟨sF0, sF1, sF2, sF3, sF4, sF5, sF6, sF7, sG0, sG1, sG2, sG3, sG4, sG5, sG6, sG7, sH0, sH1, sK0, sK1, sK2, sK3⟩ := hS
    go_simp
    try with_reducible rfl
  refine AnyJ.takeD (i := 22) (d := some 86) (v := ?_) rfl (by kernel_rfl) (by kernel_rfl) (by kernel_rfl) (by kernel_rfl) (by kernel_rfl) (fun _ _ _ h => h) (Or.inl ⟨by kernel_rfl, ?_⟩) (HK.out _ hbc) ?_
  rotate_left
  · intro w' hS
    obtain ⟨sF0, sF1, sF2, sF3, sF4, sF5, sF6, sF7, sG0, sG1, sG2, sG3, sG4, sG5, sG6, sG7, sH0, sH1, sK0, sK1, sK2, sK3⟩ := hS
    go_simp
    try with_reducible rfl
  refine AnyJ.takeD (i := 23) (d := some 87) (v := ?_) rfl (by kernel_rfl) (by kernel_rfl) (by kernel_rfl) (by kernel_rfl) (by kernel_rfl) (fun _ _ _ h => h) (Or.inl ⟨by kernel_rfl, ?_⟩) (HK.out _ hbc) ?_
  rotate_left
  · intro w' hS
    obtain ⟨sF0, sF1, sF2, sF3, sF4, sF5, sF6, sF7, sG0, sG1, sG2, sG3, sG4, sG5, sG6, sG7, sH0, sH1, sK0, sK1, sK2, sK3⟩ := hS
    go_simp
    try with_reducible rfl
  refine AnyJ.takeD (i := 24) (d := some 88) (v := ?_) rfl (by kernel_rfl) (by kernel_rfl) (by kernel_rfl) (by kernel_rfl) (by kernel_rfl) (fun _ _ _ h => h) (Or.inl ⟨by kernel_rfl, ?_⟩) (HK.out _ hbc) ?_
  rotate_left
  · intro w' hS
    obtain ⟨sF0, sF1, sF2, sF3, sF4, sF5, sF6, sF7, sG0, sG1, sG2, sG3, sG4, sG5, sG6, sG7, sH0, sH1, sK0, sK1, sK2, sK3⟩ := hS
    go_simp
    try with_reducible rfl
  refine AnyJ.takeD (i := 25) (d := some 89) (v := ?_) rfl (by kernel_rfl) (by kernel_rfl) (by kernel_rfl) (by kernel_rfl) (by kernel_rfl) (fun _ _ _ h => h) (Or.inl ⟨by kernel_rfl, ?_⟩) (HK.out _ hbc) ?_
  rotate_left
  · intro w' hS
    obtain ⟨sF0, sF1, sF2, sF3, sF4, sF5, sF6, sF7, sG0, sG1, sG2, sG3, sG4, sG5, sG6, sG7, sH0, sH1, sK0, sK1, sK2, sK3⟩ := hS
    go_simp
    try with_reducible rfl
  refine AnyJ.takeD (i := 26) (d := some 90) (v := ?_) rfl (by kernel_rfl) (by kernel_rfl) (by kernel_rfl) (by kernel_rfl) (by kernel_rfl) (fun _ _ _ h => h) (Or.inl ⟨by kernel_rfl, ?_⟩) (HK.out _ hbc) ?_
  rotate_left
  · intro w' hS
    obtain ⟨sF0, sF1, sF2, sF3, sF4, sF5, sF6, sF7, sG0, sG1, sG2, sG3, sG4, sG5, sG6, sG7, sH0, sH1, sK0, sK1, sK2, sK3⟩ := hS
    go_simp
    try with_reducible rfl
  refine AnyJ.takeD (i := 27) (d := some 91) (v := ?_) rfl (by kernel_rfl) (by kernel_rfl) (by kernel_rfl) (by kernel_rfl) (by kernel_rfl) (fun _ _ _ h => h) (Or.inl ⟨by kernel_rfl, ?_⟩) (HK.out _ hbc) ?_
  rotate_left
  · intro w' hS
    obtain ⟨sF0, sF1, sF2, sF3, sF4, sF5, sF6, sF7, sG0, sG1, sG2, sG3, sG4, sG5, sG6, sG7, sH0, sH1, sK0, sK1, sK2, sK3⟩ := hS
    go_simp
    try with_reducible rfl
  refine AnyJ.takeD (i := 28) (d := some 92) (v := ?_) rfl (by kernel_rfl) (by kernel_rfl) (by kernel_rfl) (by kernel_rfl) (by kernel_rfl) (fun _ _ _ h => h) (Or.inl ⟨by kernel_rfl, ?_⟩) (HK.out _ hbc) ?_
  rotate_left
  · intro w' hS
    obtain ⟨sF0, sF1, sF2, sF3, sF4, sF5, sF6, sF7, sG0, sG1, sG2, sG3, sG4, sG5, sG6, sG7, sH0, sH1, sK0, sK1, sK2, sK3⟩ := hS
    go_simp
    try with_reducible rfl
  refine AnyJ.takeD (i := 29) (d := some 93) (v := ?_) rfl (by kernel_rfl) (by kernel_rfl) (by kernel_rfl) (by kernel_rfl) (by kernel_rfl) (fun _ _ _ h => h) (Or.inl ⟨by kernel_rfl, ?_⟩) (HK.out _ hbc) ?_
  rotate_left
  · intro w' hS
    obtain ⟨sF0, sF1, sF2, sF3, sF4, sF5, sF6, sF7, sG0, sG1, sG2, sG3, sG4, sG5, sG6, sG7, sH0, sH1, sK0, sK1, sK2, sK3⟩ := hS
    go_simp
    try with_reducible rfl
  refine AnyJ.one (i := 30) (by kernel_rfl) rfl (fun Kz hKz => ?_)
  go_simp
  refine (hd_valid _ _ _ _ _ (HRN.out.step hbc) (HRL.out.step hbc) (HRC.out.step hbc) (HRY.out.step hbc)).mono ?_
  rintro e wC ⟨rfl, hbC⟩
  have hbd : Below wz.heap.size wz wC := hbc.trans (hbC.mono hbc.size)
  refine hKz _ _ (fun _ => HK.out _ hbd) ?_
  clear hKz Kz hbc hbC
  have hbc := hbd
  clear hbd
  refine AnyJ.takeD (i := 31) (d := some 95) (v := ?_) rfl (by kernel_rfl) (by kernel_rfl) (by kernel_rfl) (by kernel_rfl) (by kernel_rfl) (fun _ _ _ h => h) (Or.inl ⟨by kernel_rfl, ?_⟩) (HK.out _ hbc) ?_
  rotate_left
  · intro w' hS
    obtain ⟨sF0, sF1, sF2, sF3, sF4, sF5, sF6, sF7, sG0, sG1, sG2, sG3, sG4, sG5, sG6, sG7, sH0, sH1, sK0, sK1, sK2, sK3⟩ := hS
    go_simp
    try with_reducible rfl
  refine AnyJ.takeD (i := 32) (d := some 96) (v := ?_) rfl (by kernel_rfl) (by kernel_rfl) (by kernel_rfl) (by kernel_rfl) (by kernel_rfl) (fun _ _ _ h => h) (Or.inl ⟨by kernel_rfl, ?_⟩) (HK.out _ hbc) ?_
  rotate_left
  · intro w' hS
    obtain ⟨sF0, sF1, sF2, sF3, sF4, sF5, sF6, sF7, sG0, sG1, sG2, sG3, sG4, sG5, sG6, sG7, sH0, sH1, sK0, sK1, sK2, sK3⟩ := hS
    go_simp
    try with_reducible rfl
  refine AnyJ.takeD (i := 33) (d := some 97) (v := ?_) rfl (by kernel_rfl) (by kernel_rfl) (by kernel_rfl) (by kernel_rfl) (by kernel_rfl) (fun _ _ _ h => h) (Or.inl ⟨by kernel_rfl, ?_⟩) (HK.out _ hbc) ?_
  rotate_left
  · intro w' hS
    obtain ⟨sF0, sF1, sF2, sF3, sF4, sF5, sF6, sF7, sG0, sG1, sG2, sG3, sG4, sG5, sG6, sG7, sH0, sH1, sK0, sK1, sK2, sK3⟩ := hS
    go_simp
    try with_reducible rfl
  refine AnyJ.one (i := 34) (by kernel_rfl) rfl (fun Kz hKz => ?_)
  go_simp
  refine (hd_none _ _ _ (HRC.out.step hbc) (HRY.out.step hbc)).mono ?_
  rintro e wD ⟨rfl, hbD⟩
  have hbd : Below wz.heap.size wz wD := hbc.trans (hbD.mono hbc.size)
  refine hKz _ _ (fun _ => HK.out _ hbd) ?_
  clear hKz Kz hbc hbD
  have hbc := hbd
  clear hbd
  refine AnyJ.takeD (i := 35) (d := some 99) (v := ?_) rfl (by kernel_rfl) (by kernel_rfl) (by kernel_rfl) (by kernel_rfl) (by kernel_rfl) (fun _ _ _ h => h) (Or.inl ⟨by kernel_rfl, ?_⟩) (HK.out _ hbc) ?_
  rotate_left
  · intro w' hS
    obtain ⟨sF0, sF1, sF2, sF3, sF4, sF5, sF6, sF7, sG0, sG1, sG2, sG3, sG4, sG5, sG6, sG7, sH0, sH1, sK0, sK1, sK2, sK3⟩ := hS
    go_simp
    try with_reducible rfl
  refine AnyJ.takeD (i := 36) (d := some 100) (v := ?_) rfl (by kernel_rfl) (by kernel_rfl) (by kernel_rfl) (by kernel_rfl) (by kernel_rfl) (fun _ _ _ h => h) (Or.inl ⟨by kernel_rfl, ?_⟩) (HK.out _ hbc) ?_
  rotate_left
  · intro w' hS
    obtain ⟨sF0, sF1, sF2, sF3, sF4, sF5, sF6, sF7, sG0, sG1, sG2, sG3, sG4, sG5, sG6, sG7, sH0, sH1, sK0, sK1, sK2, sK3⟩ := hS
    go_simp
    try with_reducible rfl
  refine AnyJ.takeD (i := 37) (d := some 0) (v := ?_) rfl (by kernel_rfl) (by kernel_rfl) (by kernel_rfl) (by kernel_rfl) (by kernel_rfl) (fun _ _ _ h => h) (Or.inl ⟨by kernel_rfl, ?_⟩) (HK.out _ hbc) ?_
  rotate_left
  · intro w' hS
    obtain ⟨sF0, sF1, sF2, sF3, sF4, sF5, sF6, sF7, sG0, sG1, sG2, sG3, sG4, sG5, sG6, sG7, sH0, sH1, sK0, sK1, sK2, sK3⟩ := hS
    go_simp
    try with_reducible rfl
  refine AnyJ.done (by kernel_rfl) ?_ _
  try simp only [Act.put, List.setIfInBounds_toArray, List.set_cons_zero, List.set_cons_succ]
  have hfin : Below w.heap.size w wD := HBZ.out.trans (hbc.mono HBZ.out.size)
  clear hbc
  go_wp2_with fail
  go_ret
  exact ⟨rfl, hfin⟩

end Go.Proofs.Ytdijdfhlmnhcjaa
