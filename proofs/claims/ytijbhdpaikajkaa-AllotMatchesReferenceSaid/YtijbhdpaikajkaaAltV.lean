/-
  The walk of the reference's Plan.
-/
import Derived.Test.YtijbhdpaikajkaaAltT
import Derived.Test.YtijbhdpaikajkaaAltO
import Derived.Test.YtijbhdpaikajkaaWRefD
import Derived.Deep.RegionHeld3
namespace Go.Proofs.Ytijbhdpaikajkaa
set_option linter.unusedSimpArgs false
set_option linter.unusedVariables false
open Go.RowKit Go.Shelf

attribute [local go_sem] Oper.semAt_some

theorem rPromise_c (a : Option Addr) (n cap : Nat) (l : List NightV) (c : Nat) (most : Int) (i : Nat) (r s : Int) (zs : List Int) (nn cc : Nat) (w : World) (hs : SlN w a n l) (hcaps : ∀ x ∈ l, x.n ≤ x.cap ∧ x.cap ≤ maxLen) (hB : (nightsB l && inB (c : Int) 30 && inB most 1000) = true)
    (ad : Option Addr) (hx : l[i]? = some ⟨r, s, ad, nn, cc, zs⟩) (hpre : ∀ j y, j < i → l[j]? = some y → brk c most y = false) (hbr : brk c most ⟨r, s, ad, nn, cc, zs⟩ = true) (W : Int) (C S : List Int) (m : Nat) (hW : scW r s most = W) (hC : sellC zs (scL r s most) (topL zs c) = C) (hS : sellS zs (scL r s most) (topL zs c) = S) (hm : C.length = m) :
    Calls Try.prog 40 #[.slice a n cap, .int .i64 c, .int .i64 most] w
      fun e w' => ∃ a1 d1 a2 d2, e = .returned (.tuple #[.agg #[.int .i64 i, .int .i64 W, .slice a1 m d1, .slice a2 m d2], .bool true, .int .i64 0]) ∧ SlC w' a1 m d1 C ∧ SlC w' a2 m d2 S ∧ Below w.heap.size w w' := by
  refine (R_Promise_some a n cap l c most i r s zs nn cc w hs hcaps hB ad hx hpre hbr).mono ?_
  rintro e w' ⟨v1, v2, rfl, h1, h2, hb⟩
  rw [hC] at h1
  rw [hS] at h2
  obtain ⟨a1, d1, rfl, k1⟩ := h1.sized m hm
  obtain ⟨a2, d2, rfl, k2⟩ := h2.sized m (by rw [← hS, ← sell_len, hC]; exact hm)
  exact ⟨a1, d1, a2, d2, by rw [hW], k1, k2, hb⟩

set_option maxRecDepth 100000 in
set_option maxHeartbeats 3200000 in
theorem rPlan_arg (a b : Option Addr) (n cap m capm : Nat) (l : List NightV) (ls : List ListV) (c most : Int) (w : World) (hm : n ≤ 9223372036854775807) (hmm : m ≤ 9223372036854775807) (hs : SlN w a n l) (ht : SlL w b m ls) (hB : plB l ls c most = false) :
    Calls Try.prog 20 #[.slice a n cap, .slice b m capm, .int .i64 c, .int .i64 most] w
      fun e w' => e = .returned (.tuple #[.slice none 0 0, .agg #[.int .i64 0, .int .i64 0, .slice none 0 0, .slice none 0 0], .bool false, .int .i64 1]) ∧ Below w.heap.size w w' := by
  have HS := Lib.hid hs
  have HT := Lib.hid ht
  have hl := hs.1
  have hlm := ht.1
  clear hs ht
  unfold plB at hB
  obtain ⟨b1, h1⟩ : ∃ b, nightsB l = b := ⟨_, rfl⟩
  obtain ⟨b2, h2⟩ : ∃ b, inB c 30 = b := ⟨_, rfl⟩
  obtain ⟨b3, h3⟩ : ∃ b, inB most 1000 = b := ⟨_, rfl⟩
  have H1 := Lib.hid h1
  have H2 := Lib.hid h2
  have H3 := Lib.hid h3
  rw [h1, h2, h3] at hB
  clear h1 h2 h3
  cases b1 with
  | false =>
    clear hB
    go_enter Try.func20, Try.ntmps20
    go_wp2_with fail
    refine (R_valid_any _ _ _ l _ hm (HS.out.below (by (repeat' (first | (with_reducible exact Below.refl _ _) | (with_reducible assumption) | (with_reducible exact Bw.out (by with_reducible assumption)) | (with_reducible refine bw_alloc ?_ _) | (with_reducible refine bw_step ?_ (by with_reducible assumption)) | (with_reducible refine Below.alloc ?_ ?_ _) | (with_reducible refine Below.drew ?_) | (with_reducible refine below_drewN ?_ _) | (with_reducible refine Below.setCell ?_ ?_ _) | (with_reducible refine below_step ?_ (by with_reducible assumption) ?_) | (with_reducible exact Nat.le_refl _) | omega | (simp; omega) | (simp; done))))) false H1.out).mono ?_
    rintro e w1 ⟨rfl, hb1⟩
    have R_r_1 : Row w1 (w.heap.size) [.int .i64 (0), .int .i64 (0), .slice none 0 0, .slice none 0 0] := by (repeat' (first | (with_reducible assumption) | (with_reducible refine Row.new' _ _ _ (by first | rfl | (simp; done) | omega)) | (with_reducible refine Row.alloc ?_ _) | (with_reducible refine Row.drew ?_) | (with_reducible refine Row.drewN ?_ _) | (with_reducible refine Row.step ?_ (by with_reducible assumption)) | (with_reducible refine Row.set2' ?_ _ _; first | exact ⟨_, _, by with_reducible assumption⟩ | exact ⟨_, _, Row.alloc (by with_reducible assumption) _⟩ | exact ⟨_, _, Row.alloc (Row.alloc (by with_reducible assumption) _) _⟩) | (with_reducible refine Row.other ?_ (by first | omega | (simp; done) | (simp; omega)) _)))
    have c_r_0_1 := R_r_1.cell 0 rfl
    have c_r_1_1 := R_r_1.cell 1 rfl
    have c_r_2_1 := R_r_1.cell 2 rfl
    have c_r_3_1 := R_r_1.cell 3 rfl
    have z_r_0_1 := R_r_1.frozen 0
    have z_r_1_1 := R_r_1.frozen 1
    have z_r_2_1 := R_r_1.frozen 2
    have z_r_3_1 := R_r_1.frozen 3
    have l_r_1 := R_r_1.lt
    have HB1 : Below w.heap.size w w1 := by (repeat' (first | (with_reducible exact Below.refl _ _) | (with_reducible assumption) | (with_reducible exact Bw.out (by with_reducible assumption)) | (with_reducible refine bw_alloc ?_ _) | (with_reducible refine bw_step ?_ (by with_reducible assumption)) | (with_reducible refine Below.alloc ?_ ?_ _) | (with_reducible refine Below.drew ?_) | (with_reducible refine below_drewN ?_ _) | (with_reducible refine Below.setCell ?_ ?_ _) | (with_reducible refine below_step ?_ (by with_reducible assumption) ?_) | (with_reducible exact Nat.le_refl _) | omega | (simp; omega) | (simp; done)))
    have Rr := R_r_1
    have d0 := Rr.cell 0 rfl
    have d1 := Rr.cell 1 rfl
    have d2 := Rr.cell 2 rfl
    have d3 := Rr.cell 3 rfl
    have e0 := Rr.frozen 0
    have e1 := Rr.frozen 1
    have e2 := Rr.frozen 2
    have e3 := Rr.frozen 3
    have dl := Rr.lt
    have RZ := Row.set4' ⟨_, _, _, _, Rr⟩ (.int .i64 0) (.int .i64 0) (.slice none 0 0) (.slice none 0 0)
    have z0 := RZ.cell 0 rfl
    have z1 := RZ.cell 1 rfl
    have z2 := RZ.cell 2 rfl
    have z3 := RZ.cell 3 rfl
    have zl := RZ.lt
    go_wp2_with fail
    refine bodyPost_ret (v := .tuple #[.slice none 0 0, .agg #[.int .i64 0, .int .i64 0, .slice none 0 0, .slice none 0 0], .bool false, .int .i64 1]) (by simp [results, Try.results20, go_sem, z0, z1, z2, z3, zl, d0, d1, d2, d3, dl]) rfl ⟨rfl, ?_⟩
    (repeat' (first | (with_reducible exact Below.refl _ _) | (with_reducible assumption) | (with_reducible exact Bw.out (by with_reducible assumption)) | (with_reducible refine bw_alloc ?_ _) | (with_reducible refine bw_step ?_ (by with_reducible assumption)) | (with_reducible refine Below.alloc ?_ ?_ _) | (with_reducible refine Below.drew ?_) | (with_reducible refine below_drewN ?_ _) | (with_reducible refine Below.setCell ?_ ?_ _) | (with_reducible refine below_step ?_ (by with_reducible assumption) ?_) | (with_reducible exact Nat.le_refl _) | omega | (simp; omega) | (simp; done)))
  | true =>
    cases b2 with
    | false =>
      clear hB
      go_enter Try.func20, Try.ntmps20
      go_wp2_with fail
      refine (R_valid_any _ _ _ l _ hm (HS.out.below (by (repeat' (first | (with_reducible exact Below.refl _ _) | (with_reducible assumption) | (with_reducible exact Bw.out (by with_reducible assumption)) | (with_reducible refine bw_alloc ?_ _) | (with_reducible refine bw_step ?_ (by with_reducible assumption)) | (with_reducible refine Below.alloc ?_ ?_ _) | (with_reducible refine Below.drew ?_) | (with_reducible refine below_drewN ?_ _) | (with_reducible refine Below.setCell ?_ ?_ _) | (with_reducible refine below_step ?_ (by with_reducible assumption) ?_) | (with_reducible exact Nat.le_refl _) | omega | (simp; omega) | (simp; done))))) true H1.out).mono ?_
      rintro e w1 ⟨rfl, hb1⟩
      have R_r_1 : Row w1 (w.heap.size) [.int .i64 (0), .int .i64 (0), .slice none 0 0, .slice none 0 0] := by (repeat' (first | (with_reducible assumption) | (with_reducible refine Row.new' _ _ _ (by first | rfl | (simp; done) | omega)) | (with_reducible refine Row.alloc ?_ _) | (with_reducible refine Row.drew ?_) | (with_reducible refine Row.drewN ?_ _) | (with_reducible refine Row.step ?_ (by with_reducible assumption)) | (with_reducible refine Row.set2' ?_ _ _; first | exact ⟨_, _, by with_reducible assumption⟩ | exact ⟨_, _, Row.alloc (by with_reducible assumption) _⟩ | exact ⟨_, _, Row.alloc (Row.alloc (by with_reducible assumption) _) _⟩) | (with_reducible refine Row.other ?_ (by first | omega | (simp; done) | (simp; omega)) _)))
      have c_r_0_1 := R_r_1.cell 0 rfl
      have c_r_1_1 := R_r_1.cell 1 rfl
      have c_r_2_1 := R_r_1.cell 2 rfl
      have c_r_3_1 := R_r_1.cell 3 rfl
      have z_r_0_1 := R_r_1.frozen 0
      have z_r_1_1 := R_r_1.frozen 1
      have z_r_2_1 := R_r_1.frozen 2
      have z_r_3_1 := R_r_1.frozen 3
      have l_r_1 := R_r_1.lt
      have HB1 : Below w.heap.size w w1 := by (repeat' (first | (with_reducible exact Below.refl _ _) | (with_reducible assumption) | (with_reducible exact Bw.out (by with_reducible assumption)) | (with_reducible refine bw_alloc ?_ _) | (with_reducible refine bw_step ?_ (by with_reducible assumption)) | (with_reducible refine Below.alloc ?_ ?_ _) | (with_reducible refine Below.drew ?_) | (with_reducible refine below_drewN ?_ _) | (with_reducible refine Below.setCell ?_ ?_ _) | (with_reducible refine below_step ?_ (by with_reducible assumption) ?_) | (with_reducible exact Nat.le_refl _) | omega | (simp; omega) | (simp; done)))
      go_wp2_with fail
      refine (R_Cut_any _ _).mono ?_
      rintro e w' ⟨rfl, rfl⟩
      rw [H2.out]
      have Rr := R_r_1
      have d0 := Rr.cell 0 rfl
      have d1 := Rr.cell 1 rfl
      have d2 := Rr.cell 2 rfl
      have d3 := Rr.cell 3 rfl
      have e0 := Rr.frozen 0
      have e1 := Rr.frozen 1
      have e2 := Rr.frozen 2
      have e3 := Rr.frozen 3
      have dl := Rr.lt
      have RZ := Row.set4' ⟨_, _, _, _, Rr⟩ (.int .i64 0) (.int .i64 0) (.slice none 0 0) (.slice none 0 0)
      have z0 := RZ.cell 0 rfl
      have z1 := RZ.cell 1 rfl
      have z2 := RZ.cell 2 rfl
      have z3 := RZ.cell 3 rfl
      have zl := RZ.lt
      go_wp2_with fail
      refine bodyPost_ret (v := .tuple #[.slice none 0 0, .agg #[.int .i64 0, .int .i64 0, .slice none 0 0, .slice none 0 0], .bool false, .int .i64 1]) (by simp [results, Try.results20, go_sem, z0, z1, z2, z3, zl, d0, d1, d2, d3, dl]) rfl ⟨rfl, ?_⟩
      (repeat' (first | (with_reducible exact Below.refl _ _) | (with_reducible assumption) | (with_reducible exact Bw.out (by with_reducible assumption)) | (with_reducible refine bw_alloc ?_ _) | (with_reducible refine bw_step ?_ (by with_reducible assumption)) | (with_reducible refine Below.alloc ?_ ?_ _) | (with_reducible refine Below.drew ?_) | (with_reducible refine below_drewN ?_ _) | (with_reducible refine Below.setCell ?_ ?_ _) | (with_reducible refine below_step ?_ (by with_reducible assumption) ?_) | (with_reducible exact Nat.le_refl _) | omega | (simp; omega) | (simp; done)))
    | true =>
      cases b3 with
      | false =>
        clear hB
        go_enter Try.func20, Try.ntmps20
        go_wp2_with fail
        refine (R_valid_any _ _ _ l _ hm (HS.out.below (by (repeat' (first | (with_reducible exact Below.refl _ _) | (with_reducible assumption) | (with_reducible exact Bw.out (by with_reducible assumption)) | (with_reducible refine bw_alloc ?_ _) | (with_reducible refine bw_step ?_ (by with_reducible assumption)) | (with_reducible refine Below.alloc ?_ ?_ _) | (with_reducible refine Below.drew ?_) | (with_reducible refine below_drewN ?_ _) | (with_reducible refine Below.setCell ?_ ?_ _) | (with_reducible refine below_step ?_ (by with_reducible assumption) ?_) | (with_reducible exact Nat.le_refl _) | omega | (simp; omega) | (simp; done))))) true H1.out).mono ?_
        rintro e w1 ⟨rfl, hb1⟩
        have R_r_1 : Row w1 (w.heap.size) [.int .i64 (0), .int .i64 (0), .slice none 0 0, .slice none 0 0] := by (repeat' (first | (with_reducible assumption) | (with_reducible refine Row.new' _ _ _ (by first | rfl | (simp; done) | omega)) | (with_reducible refine Row.alloc ?_ _) | (with_reducible refine Row.drew ?_) | (with_reducible refine Row.drewN ?_ _) | (with_reducible refine Row.step ?_ (by with_reducible assumption)) | (with_reducible refine Row.set2' ?_ _ _; first | exact ⟨_, _, by with_reducible assumption⟩ | exact ⟨_, _, Row.alloc (by with_reducible assumption) _⟩ | exact ⟨_, _, Row.alloc (Row.alloc (by with_reducible assumption) _) _⟩) | (with_reducible refine Row.other ?_ (by first | omega | (simp; done) | (simp; omega)) _)))
        have c_r_0_1 := R_r_1.cell 0 rfl
        have c_r_1_1 := R_r_1.cell 1 rfl
        have c_r_2_1 := R_r_1.cell 2 rfl
        have c_r_3_1 := R_r_1.cell 3 rfl
        have z_r_0_1 := R_r_1.frozen 0
        have z_r_1_1 := R_r_1.frozen 1
        have z_r_2_1 := R_r_1.frozen 2
        have z_r_3_1 := R_r_1.frozen 3
        have l_r_1 := R_r_1.lt
        have HB1 : Below w.heap.size w w1 := by (repeat' (first | (with_reducible exact Below.refl _ _) | (with_reducible assumption) | (with_reducible exact Bw.out (by with_reducible assumption)) | (with_reducible refine bw_alloc ?_ _) | (with_reducible refine bw_step ?_ (by with_reducible assumption)) | (with_reducible refine Below.alloc ?_ ?_ _) | (with_reducible refine Below.drew ?_) | (with_reducible refine below_drewN ?_ _) | (with_reducible refine Below.setCell ?_ ?_ _) | (with_reducible refine below_step ?_ (by with_reducible assumption) ?_) | (with_reducible exact Nat.le_refl _) | omega | (simp; omega) | (simp; done)))
        go_wp2_with fail
        refine (R_Cut_any _ _).mono ?_
        rintro e w' ⟨rfl, rfl⟩
        rw [H2.out]
        go_wp2_with fail
        refine (R24_Promise_any _ _).mono ?_
        rintro e w' ⟨rfl, rfl⟩
        rw [H3.out]
        have Rr := R_r_1
        have d0 := Rr.cell 0 rfl
        have d1 := Rr.cell 1 rfl
        have d2 := Rr.cell 2 rfl
        have d3 := Rr.cell 3 rfl
        have e0 := Rr.frozen 0
        have e1 := Rr.frozen 1
        have e2 := Rr.frozen 2
        have e3 := Rr.frozen 3
        have dl := Rr.lt
        have RZ := Row.set4' ⟨_, _, _, _, Rr⟩ (.int .i64 0) (.int .i64 0) (.slice none 0 0) (.slice none 0 0)
        have z0 := RZ.cell 0 rfl
        have z1 := RZ.cell 1 rfl
        have z2 := RZ.cell 2 rfl
        have z3 := RZ.cell 3 rfl
        have zl := RZ.lt
        go_wp2_with fail
        refine bodyPost_ret (v := .tuple #[.slice none 0 0, .agg #[.int .i64 0, .int .i64 0, .slice none 0 0, .slice none 0 0], .bool false, .int .i64 1]) (by simp [results, Try.results20, go_sem, z0, z1, z2, z3, zl, d0, d1, d2, d3, dl]) rfl ⟨rfl, ?_⟩
        (repeat' (first | (with_reducible exact Below.refl _ _) | (with_reducible assumption) | (with_reducible exact Bw.out (by with_reducible assumption)) | (with_reducible refine bw_alloc ?_ _) | (with_reducible refine bw_step ?_ (by with_reducible assumption)) | (with_reducible refine Below.alloc ?_ ?_ _) | (with_reducible refine Below.drew ?_) | (with_reducible refine below_drewN ?_ _) | (with_reducible refine Below.setCell ?_ ?_ _) | (with_reducible refine below_step ?_ (by with_reducible assumption) ?_) | (with_reducible exact Nat.le_refl _) | omega | (simp; omega) | (simp; done)))
      | true =>
        by_cases hnm : m = n
        · subst hnm
          have hany : (ls.any fun x => !sharesB x.zs) = true := by
            rw [show decide (ls.length = l.length) = true by simp [hl, hlm]] at hB
            simpa using hB
          obtain ⟨q, y, hy, hyB⟩ := any_at hany
          have hq : q < m := by rw [← hlm]; exact (List.getElem?_eq_some_iff.1 hy).1
          have HY := Lib.hid hy
          have HYB : Hid (sharesB y.zs = false) := by show _ = _; simpa using hyB
          clear hB hany hy hyB
          go_enter Try.func20, Try.ntmps20
          go_wp2_with fail
          refine (R_valid_any _ _ _ l _ hm (HS.out.below (by (repeat' (first | (with_reducible exact Below.refl _ _) | (with_reducible assumption) | (with_reducible exact Bw.out (by with_reducible assumption)) | (with_reducible refine bw_alloc ?_ _) | (with_reducible refine bw_step ?_ (by with_reducible assumption)) | (with_reducible refine Below.alloc ?_ ?_ _) | (with_reducible refine Below.drew ?_) | (with_reducible refine below_drewN ?_ _) | (with_reducible refine Below.setCell ?_ ?_ _) | (with_reducible refine below_step ?_ (by with_reducible assumption) ?_) | (with_reducible exact Nat.le_refl _) | omega | (simp; omega) | (simp; done))))) true H1.out).mono ?_
          rintro e w1 ⟨rfl, hb1⟩
          have R_r_1 : Row w1 (w.heap.size) [.int .i64 (0), .int .i64 (0), .slice none 0 0, .slice none 0 0] := by (repeat' (first | (with_reducible assumption) | (with_reducible refine Row.new' _ _ _ (by first | rfl | (simp; done) | omega)) | (with_reducible refine Row.alloc ?_ _) | (with_reducible refine Row.drew ?_) | (with_reducible refine Row.drewN ?_ _) | (with_reducible refine Row.step ?_ (by with_reducible assumption)) | (with_reducible refine Row.set2' ?_ _ _; first | exact ⟨_, _, by with_reducible assumption⟩ | exact ⟨_, _, Row.alloc (by with_reducible assumption) _⟩ | exact ⟨_, _, Row.alloc (Row.alloc (by with_reducible assumption) _) _⟩) | (with_reducible refine Row.other ?_ (by first | omega | (simp; done) | (simp; omega)) _)))
          have c_r_0_1 := R_r_1.cell 0 rfl
          have c_r_1_1 := R_r_1.cell 1 rfl
          have c_r_2_1 := R_r_1.cell 2 rfl
          have c_r_3_1 := R_r_1.cell 3 rfl
          have z_r_0_1 := R_r_1.frozen 0
          have z_r_1_1 := R_r_1.frozen 1
          have z_r_2_1 := R_r_1.frozen 2
          have z_r_3_1 := R_r_1.frozen 3
          have l_r_1 := R_r_1.lt
          have HB1 : Below w.heap.size w w1 := by (repeat' (first | (with_reducible exact Below.refl _ _) | (with_reducible assumption) | (with_reducible exact Bw.out (by with_reducible assumption)) | (with_reducible refine bw_alloc ?_ _) | (with_reducible refine bw_step ?_ (by with_reducible assumption)) | (with_reducible refine Below.alloc ?_ ?_ _) | (with_reducible refine Below.drew ?_) | (with_reducible refine below_drewN ?_ _) | (with_reducible refine Below.setCell ?_ ?_ _) | (with_reducible refine below_step ?_ (by with_reducible assumption) ?_) | (with_reducible exact Nat.le_refl _) | omega | (simp; omega) | (simp; done)))
          go_wp2_with fail
          refine (R_Cut_any _ _).mono ?_
          rintro e w' ⟨rfl, rfl⟩
          rw [H2.out]
          go_wp2_with fail
          refine (R24_Promise_any _ _).mono ?_
          rintro e w' ⟨rfl, rfl⟩
          rw [H3.out]
          have HBB := Lib.hid HB1
          have HRR := Lib.hid R_r_1
          clear R_r_1 HB1
          go_wp2_with fail
          go_loopw [12] (fun i wr => ∃ k : Nat, k ≤ q ∧ i = .int .i64 k ∧ Hid (w1 = wr)) (fun i _ => m - (intOf i).toNat)
          case atStart => exact ⟨0, Nat.zero_le _, rfl, by first | exact trivial | exact Lib.hid rfl⟩
          case round =>
            obtain ⟨k, hk, rfl, hW⟩ := hrel
            have hW2 : w1 = wr := hW.out
            subst hW2
            obtain ⟨x, b1, off, hx, rfl, hb, KX, c0⟩ := (HT.out.below HBB.out).get (show k < m by omega)
            have HKX := Lib.hid KX
            have i1 : (0 : Int) ≤ (k : Int) := by omega
            have i2 : (k : Int) < (m : Int) := by omega
            have HX := Lib.hid hx
            have hxl := KX.len
            clear KX hx
            cases hsb : sharesB x.zs with
            | true =>
              have HSB := Lib.hid hsb
              have hkq : k < q := by
                rcases Nat.lt_or_ge k q with h | h
                · exact h
                · exfalso
                  obtain rfl : k = q := by omega
                  have h1 := HX.out
                  rw [HY.out] at h1
                  cases h1
                  rw [HYB.out] at hsb
                  cases hsb
              clear hsb
              go_wp2_with fail
              refine (R_shares_any _ _ _ x.zs _ hxl HKX.out.sl).mono ?_
              rintro e w' ⟨rfl, rfl⟩
              rw [HSB.out]
              go_wp2_with fail
              go_roundw
              case rel => exact ⟨k + 1, by omega, by go_num, by first | exact trivial | exact hW⟩
              case measure => simp [intOf]; omega
            | false =>
              have HSB := Lib.hid hsb
              clear hsb
              go_wp2_with fail
              refine (R_shares_any _ _ _ x.zs _ hxl HKX.out.sl).mono ?_
              rintro e w' ⟨rfl, rfl⟩
              rw [HSB.out]
              have Rr := HRR.out
              have hB4 := HBB.out
              have d0 := Rr.cell 0 rfl
              have d1 := Rr.cell 1 rfl
              have d2 := Rr.cell 2 rfl
              have d3 := Rr.cell 3 rfl
              have e0 := Rr.frozen 0
              have e1 := Rr.frozen 1
              have e2 := Rr.frozen 2
              have e3 := Rr.frozen 3
              have dl := Rr.lt
              have RZ := Row.set4' ⟨_, _, _, _, Rr⟩ (.int .i64 0) (.int .i64 0) (.slice none 0 0) (.slice none 0 0)
              have z0 := RZ.cell 0 rfl
              have z1 := RZ.cell 1 rfl
              have z2 := RZ.cell 2 rfl
              have z3 := RZ.cell 3 rfl
              have zl := RZ.lt
              go_wp2_with fail
              refine bodyPost_ret (v := .tuple #[.slice none 0 0, .agg #[.int .i64 0, .int .i64 0, .slice none 0 0, .slice none 0 0], .bool false, .int .i64 1]) (by simp [results, Try.results20, go_sem, z0, z1, z2, z3, zl, d0, d1, d2, d3, dl]) rfl ⟨rfl, ?_⟩
              (repeat' (first | (with_reducible exact Below.refl _ _) | (with_reducible assumption) | (with_reducible exact Bw.out (by with_reducible assumption)) | (with_reducible refine bw_alloc ?_ _) | (with_reducible refine bw_step ?_ (by with_reducible assumption)) | (with_reducible refine Below.alloc ?_ ?_ _) | (with_reducible refine Below.drew ?_) | (with_reducible refine below_drewN ?_ _) | (with_reducible refine Below.setCell ?_ ?_ _) | (with_reducible refine below_step ?_ (by with_reducible assumption) ?_) | (with_reducible exact Nat.le_refl _) | omega | (simp; omega) | (simp; done)))
        · have hne : ¬ ((m : Int) = (n : Int)) := by omega
          clear hB
          go_enter Try.func20, Try.ntmps20
          go_wp2_with fail
          refine (R_valid_any _ _ _ l _ hm (HS.out.below (by (repeat' (first | (with_reducible exact Below.refl _ _) | (with_reducible assumption) | (with_reducible exact Bw.out (by with_reducible assumption)) | (with_reducible refine bw_alloc ?_ _) | (with_reducible refine bw_step ?_ (by with_reducible assumption)) | (with_reducible refine Below.alloc ?_ ?_ _) | (with_reducible refine Below.drew ?_) | (with_reducible refine below_drewN ?_ _) | (with_reducible refine Below.setCell ?_ ?_ _) | (with_reducible refine below_step ?_ (by with_reducible assumption) ?_) | (with_reducible exact Nat.le_refl _) | omega | (simp; omega) | (simp; done))))) true H1.out).mono ?_
          rintro e w1 ⟨rfl, hb1⟩
          have R_r_1 : Row w1 (w.heap.size) [.int .i64 (0), .int .i64 (0), .slice none 0 0, .slice none 0 0] := by (repeat' (first | (with_reducible assumption) | (with_reducible refine Row.new' _ _ _ (by first | rfl | (simp; done) | omega)) | (with_reducible refine Row.alloc ?_ _) | (with_reducible refine Row.drew ?_) | (with_reducible refine Row.drewN ?_ _) | (with_reducible refine Row.step ?_ (by with_reducible assumption)) | (with_reducible refine Row.set2' ?_ _ _; first | exact ⟨_, _, by with_reducible assumption⟩ | exact ⟨_, _, Row.alloc (by with_reducible assumption) _⟩ | exact ⟨_, _, Row.alloc (Row.alloc (by with_reducible assumption) _) _⟩) | (with_reducible refine Row.other ?_ (by first | omega | (simp; done) | (simp; omega)) _)))
          have c_r_0_1 := R_r_1.cell 0 rfl
          have c_r_1_1 := R_r_1.cell 1 rfl
          have c_r_2_1 := R_r_1.cell 2 rfl
          have c_r_3_1 := R_r_1.cell 3 rfl
          have z_r_0_1 := R_r_1.frozen 0
          have z_r_1_1 := R_r_1.frozen 1
          have z_r_2_1 := R_r_1.frozen 2
          have z_r_3_1 := R_r_1.frozen 3
          have l_r_1 := R_r_1.lt
          have HB1 : Below w.heap.size w w1 := by (repeat' (first | (with_reducible exact Below.refl _ _) | (with_reducible assumption) | (with_reducible exact Bw.out (by with_reducible assumption)) | (with_reducible refine bw_alloc ?_ _) | (with_reducible refine bw_step ?_ (by with_reducible assumption)) | (with_reducible refine Below.alloc ?_ ?_ _) | (with_reducible refine Below.drew ?_) | (with_reducible refine below_drewN ?_ _) | (with_reducible refine Below.setCell ?_ ?_ _) | (with_reducible refine below_step ?_ (by with_reducible assumption) ?_) | (with_reducible exact Nat.le_refl _) | omega | (simp; omega) | (simp; done)))
          go_wp2_with fail
          refine (R_Cut_any _ _).mono ?_
          rintro e w' ⟨rfl, rfl⟩
          rw [H2.out]
          go_wp2_with fail
          refine (R24_Promise_any _ _).mono ?_
          rintro e w' ⟨rfl, rfl⟩
          rw [H3.out]
          have Rr := R_r_1
          have d0 := Rr.cell 0 rfl
          have d1 := Rr.cell 1 rfl
          have d2 := Rr.cell 2 rfl
          have d3 := Rr.cell 3 rfl
          have e0 := Rr.frozen 0
          have e1 := Rr.frozen 1
          have e2 := Rr.frozen 2
          have e3 := Rr.frozen 3
          have dl := Rr.lt
          have RZ := Row.set4' ⟨_, _, _, _, Rr⟩ (.int .i64 0) (.int .i64 0) (.slice none 0 0) (.slice none 0 0)
          have z0 := RZ.cell 0 rfl
          have z1 := RZ.cell 1 rfl
          have z2 := RZ.cell 2 rfl
          have z3 := RZ.cell 3 rfl
          have zl := RZ.lt
          go_wp2_with fail
          refine bodyPost_ret (v := .tuple #[.slice none 0 0, .agg #[.int .i64 0, .int .i64 0, .slice none 0 0, .slice none 0 0], .bool false, .int .i64 1]) (by simp [results, Try.results20, go_sem, z0, z1, z2, z3, zl, d0, d1, d2, d3, dl]) rfl ⟨rfl, ?_⟩
          (repeat' (first | (with_reducible exact Below.refl _ _) | (with_reducible assumption) | (with_reducible exact Bw.out (by with_reducible assumption)) | (with_reducible refine bw_alloc ?_ _) | (with_reducible refine bw_step ?_ (by with_reducible assumption)) | (with_reducible refine Below.alloc ?_ ?_ _) | (with_reducible refine Below.drew ?_) | (with_reducible refine below_drewN ?_ _) | (with_reducible refine Below.setCell ?_ ?_ _) | (with_reducible refine below_step ?_ (by with_reducible assumption) ?_) | (with_reducible exact Nat.le_refl _) | omega | (simp; omega) | (simp; done)))

theorem bare_none {l : List NightV} {n c : Nat} {most : Int} (h0 : 0 ≤ most) (h : ∀ (j : Nat) x, l[j]? = some x → x.sold ≤ x.rooms + most) : ((l.take n).map bareN).any (brk c most) = false := by
  rw [List.any_eq_false]
  intro y hy
  obtain ⟨x, hx, rfl⟩ := List.mem_map.1 hy
  obtain ⟨i, hi, he⟩ := List.getElem_of_mem (List.mem_of_mem_take hx)
  have := h i x (by rw [List.getElem?_eq_getElem hi, he])
  rw [brk_bare h0]
  simp; omega
theorem bare_some {l : List NightV} {n i c : Nat} {x : NightV} {most : Int} (h0 : 0 ≤ most) (hi : i < n) (hx : l[i]? = some x) (hbr : x.rooms + most < x.sold) (hP : ∀ (j : Nat) y, j < i → l[j]? = some y → y.sold ≤ y.rooms + most) :
    ((l.take n).map bareN)[i]? = some ⟨x.rooms, x.sold, none, 0, 0, []⟩ ∧ (∀ j y, j < i → ((l.take n).map bareN)[j]? = some y → brk c most y = false) ∧ brk c most ⟨x.rooms, x.sold, none, 0, 0, []⟩ = true := by
  have h2 : brk c most (bareN x) = true := by rw [brk_bare h0]; simpa using hbr
  refine ⟨bare_at hi hx, fun j y hj hy => ?_, h2⟩
  have hl : j < l.length := by have := (List.getElem?_eq_some_iff.1 hx).1; omega
  have h3 := bare_at (k := n) (by omega) (List.getElem?_eq_getElem hl)
  rw [h3] at hy
  cases hy
  have := hP j _ hj (List.getElem?_eq_getElem hl)
  rw [brk_bare h0]
  simp; omega


set_option maxRecDepth 100000 in
set_option maxHeartbeats 6400000 in
theorem rPlan_okB (a b : Option Addr) (n cap capm : Nat) (l : List NightV) (ls : List ListV) (c : Nat) (most : Int) (w : World) (hs : SlN w a n l) (ht : SlL w b n ls) (hB : plB l ls c most = true) (i : Nat) (x : NightV) (hx : l[i]? = some x) (hlt : x.rooms + most < x.sold) (hpre : ∀ (j : Nat) y, j < i → l[j]? = some y → y.sold ≤ y.rooms + most) :
    Calls Try.prog 20 #[.slice a n cap, .slice b n capm, .int .i64 c, .int .i64 most] w fun e w' => ∃ a1 d1 a2 d2, e = .returned (.tuple #[.slice none 0 0, .agg #[.int .i64 i, .int .i64 (x.sold - x.rooms), .slice a1 0 d1, .slice a2 0 d2], .bool false, .int .i64 0]) ∧ SlC w' a1 0 d1 [] ∧ SlC w' a2 0 d2 [] ∧ Below w.heap.size w w' := by
  have him : i < n := by have := (List.getElem?_eq_some_iff.1 hx).1; have := hs.1; omega
  have hm0' : 0 ≤ most := by
    have hB2 := hB
    unfold plB at hB2
    simp only [Bool.and_eq_true] at hB2
    exact (inB_iff.1 hB2.1.1.2).1
  obtain ⟨j1, j2, j3⟩ := bare_some (c := c) hm0' him hx hlt hpre
  have J1 := Lib.hid j1
  have J2 := Lib.hid j2
  have J3 := Lib.hid j3
  have HW1 : Hid (scW x.rooms x.sold most = x.sold - x.rooms) := by show _ = _; unfold scW; omega
  clear j1 j2 j3 hx hlt hpre hm0'
  have HS := Lib.hid hs
  have HT := Lib.hid ht
  have hl := hs.1
  have hlm := ht.1
  have hB2 := hB
  unfold plB at hB2
  simp only [Bool.and_eq_true] at hB2
  obtain ⟨⟨⟨⟨h1, h2⟩, h3⟩, h4⟩, h5⟩ := hB2
  have hc30 : c ≤ 30 := by have := (inB_iff.1 h2).2; omega
  obtain ⟨hm0, hm1⟩ := inB_iff.1 h3
  have hn : n ≤ 366 := by have := nightsB_len h1; omega
  have hm : n ≤ 9223372036854775807 := by omega
  have H1 := Lib.hid h1
  have H2 := Lib.hid h2
  have H3 := Lib.hid h3
  have HGB : Hid ((nightsB ((l.take n).map bareN) && inB (c : Int) 30 && inB most 1000) = true) := by
    show _ = _
    rw [nightsB_bare h1 n, h2, h3]; rfl
  have HSH : Hid (∀ (i : Nat) y, ls[i]? = some y → sharesB y.zs = true) := fun i y hy => by
    have h6 := h5
    simp only [Bool.not_eq_true', List.any_eq_false] at h6
    have := h6 y (List.mem_of_getElem? hy)
    simpa using this
  clear hs ht hB h1 h2 h3 h4 h5
  go_enter Try.func20, Try.ntmps20
  go_wp2_with fail
  refine (R_valid_any _ _ _ l _ hm (HS.out.below (by (repeat' (first | (with_reducible exact Below.refl _ _) | (with_reducible assumption) | (with_reducible exact Bw.out (by with_reducible assumption)) | (with_reducible refine bw_alloc ?_ _) | (with_reducible refine bw_step ?_ (by with_reducible assumption)) | (with_reducible refine Below.alloc ?_ ?_ _) | (with_reducible refine Below.drew ?_) | (with_reducible refine below_drewN ?_ _) | (with_reducible refine Below.setCell ?_ ?_ _) | (with_reducible refine below_step ?_ (by with_reducible assumption) ?_) | (with_reducible exact Nat.le_refl _) | omega | (simp; omega) | (simp; done))))) true H1.out).mono ?_
  rintro e w1 ⟨rfl, hb1⟩
  have R_r_1 : Row w1 (w.heap.size) [.int .i64 (0), .int .i64 (0), .slice none 0 0, .slice none 0 0] := by (repeat' (first | (with_reducible assumption) | (with_reducible refine Row.new' _ _ _ (by first | rfl | (simp; done) | omega)) | (with_reducible refine Row.alloc ?_ _) | (with_reducible refine Row.drew ?_) | (with_reducible refine Row.drewN ?_ _) | (with_reducible refine Row.step ?_ (by with_reducible assumption)) | (with_reducible refine Row.set2' ?_ _ _; first | exact ⟨_, _, by with_reducible assumption⟩ | exact ⟨_, _, Row.alloc (by with_reducible assumption) _⟩ | exact ⟨_, _, Row.alloc (Row.alloc (by with_reducible assumption) _) _⟩) | (with_reducible refine Row.other ?_ (by first | omega | (simp; done) | (simp; omega)) _)))
  have c_r_0_1 := R_r_1.cell 0 rfl
  have c_r_1_1 := R_r_1.cell 1 rfl
  have c_r_2_1 := R_r_1.cell 2 rfl
  have c_r_3_1 := R_r_1.cell 3 rfl
  have z_r_0_1 := R_r_1.frozen 0
  have z_r_1_1 := R_r_1.frozen 1
  have z_r_2_1 := R_r_1.frozen 2
  have z_r_3_1 := R_r_1.frozen 3
  have l_r_1 := R_r_1.lt
  have HB1 : Below w.heap.size w w1 := by (repeat' (first | (with_reducible exact Below.refl _ _) | (with_reducible assumption) | (with_reducible exact Bw.out (by with_reducible assumption)) | (with_reducible refine bw_alloc ?_ _) | (with_reducible refine bw_step ?_ (by with_reducible assumption)) | (with_reducible refine Below.alloc ?_ ?_ _) | (with_reducible refine Below.drew ?_) | (with_reducible refine below_drewN ?_ _) | (with_reducible refine Below.setCell ?_ ?_ _) | (with_reducible refine below_step ?_ (by with_reducible assumption) ?_) | (with_reducible exact Nat.le_refl _) | omega | (simp; omega) | (simp; done)))
  go_wp2_with fail
  refine (R_Cut_any _ _).mono ?_
  rintro e w' ⟨rfl, rfl⟩
  rw [H2.out]
  go_wp2_with fail
  refine (R24_Promise_any _ _).mono ?_
  rintro e w' ⟨rfl, rfl⟩
  rw [H3.out]
  have HBB := Lib.hid HB1
  have HRR := Lib.hid R_r_1
  clear R_r_1 HB1 c_r_0_1 c_r_1_1 c_r_2_1 c_r_3_1 z_r_0_1 z_r_1_1 z_r_2_1 z_r_3_1 hb1
  go_wp2_with fail
  go_loopw [12] (fun i wr => ∃ k : Nat, k ≤ n ∧ i = .int .i64 k ∧ Hid (w1 = wr)) (fun i _ => n - (intOf i).toNat)
  case atStart => exact ⟨0, Nat.zero_le _, rfl, by first | exact trivial | exact Lib.hid rfl⟩
  case round =>
    obtain ⟨k, hk, rfl, hW⟩ := hrel
    have hW2 : w1 = wr := hW.out
    subst hW2
    by_cases hlt : k < n
    · obtain ⟨x, b1, off, hx, rfl, hb, KX, c0⟩ := (HT.out.below HBB.out).get hlt
      have HKX := Lib.hid KX
      have hxl := KX.len
      have HSB := Lib.hid (HSH.out _ _ hx)
      have i1 : (0 : Int) ≤ (k : Int) := by omega
      have i2 : (k : Int) < (n : Int) := by omega
      clear KX hx
      go_wp2_with fail
      refine (R_shares_any _ _ _ x.zs _ hxl HKX.out.sl).mono ?_
      rintro e w' ⟨rfl, rfl⟩
      rw [HSB.out]
      go_wp2_with fail
      go_roundw
      case rel => exact ⟨k + 1, by omega, by go_num, by first | exact trivial | exact hW⟩
      case measure => simp [intOf]; omega
    · obtain rfl : n = k := by omega
      clear hlt hk hW
      go_wp2_with fail
      refine (rBare_any a n cap l _ (by omega) (HS.out.below HBB.out)).mono ?_
      rintro e w2 ⟨ab, cb, rfl, HO, hb2⟩
      have NB := HO.sl (bareL_in _ _ _)
      have HB2 : Hid (Below w.heap.size w w2) := HBB.out.trans (hb2.mono HBB.out.size)
      have HR2 := Lib.hid (HRR.out.step hb2)
      clear HO hb2
      go_wp2_with fail
      refine (rPromise_c ab n cb ((l.take n).map bareN) c most i x.rooms x.sold [] 0 0 _ NB.1 (bareL_caps _ _) HGB.out none J1.out J2.out J3.out (x.sold - x.rooms) [] [] 0 HW1.out (by rw [topL_nil]; rfl) (by rw [topL_nil]; rfl) rfl).mono ?_
      rintro e w6 ⟨a1, d1, a2, d2, rfl, K1, K2, hb6⟩
      have hBw6 : Below w.heap.size w w6 := HB2.out.trans (hb6.mono HB2.out.size)
      have R6 := HR2.out.step hb6
      have l6 := R6.lt
      go_upto_region 10 with fail
      obtain ⟨w7, hW7⟩ : ∃ W, w6.alloc (.cells #[.int .i64 i, .int .i64 (x.sold - x.rooms), .slice a1 0 d1, .slice a2 0 d2] 37) = W := ⟨_, rfl⟩
      rw [hW7]
      have hB67 : Below w6.heap.size w6 w7 := by rw [← hW7]; (repeat' (first | (with_reducible exact Below.refl _ _) | (with_reducible assumption) | (with_reducible exact Bw.out (by with_reducible assumption)) | (with_reducible refine bw_alloc ?_ _) | (with_reducible refine bw_step ?_ (by with_reducible assumption)) | (with_reducible refine Below.alloc ?_ ?_ _) | (with_reducible refine Below.drew ?_) | (with_reducible refine below_drewN ?_ _) | (with_reducible refine Below.setCell ?_ ?_ _) | (with_reducible refine below_step ?_ (by with_reducible assumption) ?_) | (with_reducible exact Nat.le_refl _) | omega | (simp; omega) | (simp; done)))
      have R7 : Row w7 w6.heap.size [.int .i64 i, .int .i64 (x.sold - x.rooms), .slice a1 0 d1, .slice a2 0 d2] := by rw [← hW7]; exact Row.new' _ _ _ rfl
      have Rr := R6.step hB67
      have hBw7 : Below w.heap.size w w7 := hBw6.trans (hB67.mono hBw6.size)
      have K1' := K1.step hB67
      have K2' := K2.step hB67
      obtain ⟨g7, hg7⟩ : ∃ g, w6.heap.size = g := ⟨_, rfl⟩
      rw [hg7] at R7 l6 ⊢
      have HK1 := Lib.hid K1'
      have HK2 := Lib.hid K2'
      have HB7 := Lib.hid hBw7
      clear hW7 hB67 K1 K2 K1' K2' hb6 hBw6 R6 hg7 hBw7
      have q0 := R7.cell 0 rfl
      have q1 := R7.cell 1 rfl
      have q2 := R7.cell 2 rfl
      have q3 := R7.cell 3 rfl
      refine AnyJ.beginP (fun w' : World => w'.cell? ⟨g7, 0, none⟩ = some (.int .i64 i) ∧ w'.cell? ⟨g7, 1, none⟩ = some (.int .i64 (x.sold - x.rooms)) ∧ w'.cell? ⟨g7, 2, none⟩ = some (.slice a1 0 d1) ∧ w'.cell? ⟨g7, 3, none⟩ = some (.slice a2 0 d2)) (fun _ => true) (by kernel_rfl) ⟨q0, q1, q2, q3⟩ (fun hS => ?_)
      refine AnyJ.takeD (i := 0) (d := some 64) (v := ?_) rfl (by kernel_rfl) (by kernel_rfl) (by kernel_rfl) (by kernel_rfl) (by kernel_rfl) (fun _ _ _ h => h) (Or.inl ⟨by kernel_rfl, ?_⟩) hS ?_
      rotate_left
      · intro w' hS
        obtain ⟨sF0, sF1, sF2, sF3⟩ := hS
        go_simp
        try with_reducible rfl
      refine AnyJ.takeD (i := 1) (d := some 8) (v := ?_) rfl (by kernel_rfl) (by kernel_rfl) (by kernel_rfl) (by kernel_rfl) (by kernel_rfl) (fun _ _ _ h => h) (Or.inl ⟨by kernel_rfl, ?_⟩) hS ?_
      rotate_left
      · intro w' hS
        clear hS
        go_simp
        try with_reducible rfl
      have d0 := Rr.cell 0 rfl
      have d1' := Rr.cell 1 rfl
      have d2' := Rr.cell 2 rfl
      have d3 := Rr.cell 3 rfl
      have e0 := Rr.frozen 0
      have e1 := Rr.frozen 1
      have e2 := Rr.frozen 2
      have e3 := Rr.frozen 3
      have dl := Rr.lt
      refine AnyJ.one (i := 2) (by kernel_rfl) rfl (fun Kz hKz => ?_)
      go_simp
      obtain ⟨w8, hW8⟩ : ∃ W, ((((w7.setCell ⟨w.heap.size, 0, none⟩ (.int .i64 i)).setCell ⟨w.heap.size, 1, none⟩ (.int .i64 (x.sold - x.rooms))).setCell ⟨w.heap.size, 2, none⟩ (.slice a1 0 d1)).setCell ⟨w.heap.size, 3, none⟩ (.slice a2 0 d2)).drew = W := ⟨_, rfl⟩
      rw [hW8]
      have RZ : Row w8 w.heap.size [.int .i64 i, .int .i64 (x.sold - x.rooms), .slice a1 0 d1, .slice a2 0 d2] := by rw [← hW8]; exact (Row.set4' ⟨_, _, _, _, Rr⟩ _ _ _ _).drew
      have R8 : Row w8 g7 [.int .i64 i, .int .i64 (x.sold - x.rooms), .slice a1 0 d1, .slice a2 0 d2] := by
        rw [← hW8]
        exact ((((R7.other (by simp; omega) _).other (by simp; omega) _).other (by simp; omega) _).other (by simp; omega) _).drew
      have hB8 : Below w.heap.size w w8 := by
        rw [← hW8]
        exact (Below.setCell (Below.setCell (Below.setCell (Below.setCell HB7.out (Nat.le_refl _) _) (Nat.le_refl _) _) (Nat.le_refl _) _) (Nat.le_refl _) _).drew
      have z0 := RZ.cell 0 rfl
      have z1 := RZ.cell 1 rfl
      have z2 := RZ.cell 2 rfl
      have z3 := RZ.cell 3 rfl
      have zl := RZ.lt
      have hS8 : w8.cell? ⟨g7, 0, none⟩ = some (.int .i64 i) ∧ w8.cell? ⟨g7, 1, none⟩ = some (.int .i64 (x.sold - x.rooms)) ∧ w8.cell? ⟨g7, 2, none⟩ = some (.slice a1 0 d1) ∧ w8.cell? ⟨g7, 3, none⟩ = some (.slice a2 0 d2) := ⟨R8.cell 0 rfl, R8.cell 1 rfl, R8.cell 2 rfl, R8.cell 3 rfl⟩
      have HK3 : Hid (SlC w8 a1 0 d1 []) := SlC.empty HK1.out
      have HK4 : Hid (SlC w8 a2 0 d2 []) := SlC.empty HK2.out
      refine hKz _ _ (fun _ => hS8) ?_
      clear hKz Kz hW8 hS d0 d1' d2' d3 e0 e1 e2 e3 dl Rr R7 HB7 HK1 HK2 q0 q1 q2 q3
      refine AnyJ.takeD (i := 3) (d := some 10) (v := ?_) rfl (by kernel_rfl) (by kernel_rfl) (by kernel_rfl) (by kernel_rfl) (by kernel_rfl) (fun _ _ _ h => h) (Or.inl ⟨by kernel_rfl, ?_⟩) hS8 ?_
      rotate_left
      · intro w' hS
        clear hS
        go_simp
        try with_reducible rfl
      refine AnyJ.takeD (i := 4) (d := some 11) (v := ?_) rfl (by kernel_rfl) (by kernel_rfl) (by kernel_rfl) (by kernel_rfl) (by kernel_rfl) (fun _ _ _ h => h) (Or.inl ⟨by kernel_rfl, ?_⟩) hS8 ?_
      rotate_left
      · intro w' hS
        clear hS
        go_simp
        try with_reducible rfl
      clear hS8
      refine AnyJ.done (by kernel_rfl) ?_ _
      try simp only [Act.put, List.setIfInBounds_toArray, List.set_cons_zero, List.set_cons_succ]
      go_wp2_with fail
      try rw [Exit.noGoto_ret]
      refine bodyPost_ret (v := .tuple #[.slice none 0 0, .agg #[.int .i64 i, .int .i64 (x.sold - x.rooms), .slice a1 0 d1, .slice a2 0 d2], .bool false, .int .i64 0]) (by simp [results, Try.results20, go_sem, z0, z1, z2, z3, zl]) rfl ⟨a1, d1, a2, d2, rfl, HK3.out, HK4.out, hB8⟩

set_option maxRecDepth 100000 in
set_option maxHeartbeats 6400000 in
theorem rPlan_okA (a b : Option Addr) (n cap capm : Nat) (l : List NightV) (ls : List ListV) (c : Nat) (most : Int) (w : World) (hs : SlN w a n l) (ht : SlL w b n ls) (hB : plB l ls c most = true) (hall : ∀ (j : Nat) x, l[j]? = some x → x.sold ≤ x.rooms + most) :
    Calls Try.prog 20 #[.slice a n cap, .slice b n capm, .int .i64 c, .int .i64 most] w fun e w' => ∃ ad cp L, e = .returned (.tuple #[.slice ad n cp, .agg #[.int .i64 0, .int .i64 0, .slice none 0 0, .slice none 0 0], .bool true, .int .i64 0]) ∧ SlN w' ad n L ∧ Hid (∀ x ∈ L, x.n ≤ x.cap ∧ x.cap ≤ maxLen) ∧ Hid (L.map triN = plT c most l ls) ∧ Below w.heap.size w w' := by
  have hm0' : 0 ≤ most := by
    have hB2 := hB
    unfold plB at hB2
    simp only [Bool.and_eq_true] at hB2
    exact (inB_iff.1 hB2.1.1.2).1
  have HNO := Lib.hid (bare_none (n := n) (c := c) hm0' hall)
  have HALL := Lib.hid hall
  obtain ⟨T, hT⟩ : ∃ T, plT c most l ls = T := ⟨_, rfl⟩
  have HTT := Lib.hid hT
  clear hm0' hall hT
  have HS := Lib.hid hs
  have HT := Lib.hid ht
  have hl := hs.1
  have hlm := ht.1
  have hB2 := hB
  unfold plB at hB2
  simp only [Bool.and_eq_true] at hB2
  obtain ⟨⟨⟨⟨h1, h2⟩, h3⟩, h4⟩, h5⟩ := hB2
  have hc30 : c ≤ 30 := by have := (inB_iff.1 h2).2; omega
  obtain ⟨hm0, hm1⟩ := inB_iff.1 h3
  have hn : n ≤ 366 := by have := nightsB_len h1; omega
  have hm : n ≤ 9223372036854775807 := by omega
  have H1 := Lib.hid h1
  have H2 := Lib.hid h2
  have H3 := Lib.hid h3
  have HGB : Hid ((nightsB ((l.take n).map bareN) && inB (c : Int) 30 && inB most 1000) = true) := by
    show _ = _
    rw [nightsB_bare h1 n, h2, h3]; rfl
  have HSH : Hid (∀ (i : Nat) y, ls[i]? = some y → sharesB y.zs = true) := fun i y hy => by
    have h6 := h5
    simp only [Bool.not_eq_true', List.any_eq_false] at h6
    have := h6 y (List.mem_of_getElem? hy)
    simpa using this
  clear hs ht hB h1 h2 h3 h4 h5
  go_enter Try.func20, Try.ntmps20
  go_wp2_with fail
  refine (R_valid_any _ _ _ l _ hm (HS.out.below (by (repeat' (first | (with_reducible exact Below.refl _ _) | (with_reducible assumption) | (with_reducible exact Bw.out (by with_reducible assumption)) | (with_reducible refine bw_alloc ?_ _) | (with_reducible refine bw_step ?_ (by with_reducible assumption)) | (with_reducible refine Below.alloc ?_ ?_ _) | (with_reducible refine Below.drew ?_) | (with_reducible refine below_drewN ?_ _) | (with_reducible refine Below.setCell ?_ ?_ _) | (with_reducible refine below_step ?_ (by with_reducible assumption) ?_) | (with_reducible exact Nat.le_refl _) | omega | (simp; omega) | (simp; done))))) true H1.out).mono ?_
  rintro e w1 ⟨rfl, hb1⟩
  have R_r_1 : Row w1 (w.heap.size) [.int .i64 (0), .int .i64 (0), .slice none 0 0, .slice none 0 0] := by (repeat' (first | (with_reducible assumption) | (with_reducible refine Row.new' _ _ _ (by first | rfl | (simp; done) | omega)) | (with_reducible refine Row.alloc ?_ _) | (with_reducible refine Row.drew ?_) | (with_reducible refine Row.drewN ?_ _) | (with_reducible refine Row.step ?_ (by with_reducible assumption)) | (with_reducible refine Row.set2' ?_ _ _; first | exact ⟨_, _, by with_reducible assumption⟩ | exact ⟨_, _, Row.alloc (by with_reducible assumption) _⟩ | exact ⟨_, _, Row.alloc (Row.alloc (by with_reducible assumption) _) _⟩) | (with_reducible refine Row.other ?_ (by first | omega | (simp; done) | (simp; omega)) _)))
  have c_r_0_1 := R_r_1.cell 0 rfl
  have c_r_1_1 := R_r_1.cell 1 rfl
  have c_r_2_1 := R_r_1.cell 2 rfl
  have c_r_3_1 := R_r_1.cell 3 rfl
  have z_r_0_1 := R_r_1.frozen 0
  have z_r_1_1 := R_r_1.frozen 1
  have z_r_2_1 := R_r_1.frozen 2
  have z_r_3_1 := R_r_1.frozen 3
  have l_r_1 := R_r_1.lt
  have HB1 : Below w.heap.size w w1 := by (repeat' (first | (with_reducible exact Below.refl _ _) | (with_reducible assumption) | (with_reducible exact Bw.out (by with_reducible assumption)) | (with_reducible refine bw_alloc ?_ _) | (with_reducible refine bw_step ?_ (by with_reducible assumption)) | (with_reducible refine Below.alloc ?_ ?_ _) | (with_reducible refine Below.drew ?_) | (with_reducible refine below_drewN ?_ _) | (with_reducible refine Below.setCell ?_ ?_ _) | (with_reducible refine below_step ?_ (by with_reducible assumption) ?_) | (with_reducible exact Nat.le_refl _) | omega | (simp; omega) | (simp; done)))
  go_wp2_with fail
  refine (R_Cut_any _ _).mono ?_
  rintro e w' ⟨rfl, rfl⟩
  rw [H2.out]
  go_wp2_with fail
  refine (R24_Promise_any _ _).mono ?_
  rintro e w' ⟨rfl, rfl⟩
  rw [H3.out]
  have HBB := Lib.hid HB1
  have HRR := Lib.hid R_r_1
  clear R_r_1 HB1 c_r_0_1 c_r_1_1 c_r_2_1 c_r_3_1 z_r_0_1 z_r_1_1 z_r_2_1 z_r_3_1 hb1
  go_wp2_with fail
  go_loopw [12] (fun i wr => ∃ k : Nat, k ≤ n ∧ i = .int .i64 k ∧ Hid (w1 = wr)) (fun i _ => n - (intOf i).toNat)
  case atStart => exact ⟨0, Nat.zero_le _, rfl, by first | exact trivial | exact Lib.hid rfl⟩
  case round =>
    obtain ⟨k, hk, rfl, hW⟩ := hrel
    have hW2 : w1 = wr := hW.out
    subst hW2
    by_cases hlt : k < n
    · obtain ⟨x, b1, off, hx, rfl, hb, KX, c0⟩ := (HT.out.below HBB.out).get hlt
      have HKX := Lib.hid KX
      have hxl := KX.len
      have HSB := Lib.hid (HSH.out _ _ hx)
      have i1 : (0 : Int) ≤ (k : Int) := by omega
      have i2 : (k : Int) < (n : Int) := by omega
      clear KX hx
      go_wp2_with fail
      refine (R_shares_any _ _ _ x.zs _ hxl HKX.out.sl).mono ?_
      rintro e w' ⟨rfl, rfl⟩
      rw [HSB.out]
      go_wp2_with fail
      go_roundw
      case rel => exact ⟨k + 1, by omega, by go_num, by first | exact trivial | exact hW⟩
      case measure => simp [intOf]; omega
    · obtain rfl : n = k := by omega
      clear hlt hk hW
      go_wp2_with fail
      refine (rBare_any a n cap l _ (by omega) (HS.out.below HBB.out)).mono ?_
      rintro e w2 ⟨ab, cb, rfl, HO, hb2⟩
      have NB := HO.sl (bareL_in _ _ _)
      have HB2 : Hid (Below w.heap.size w w2) := HBB.out.trans (hb2.mono HBB.out.size)
      have HR2 := Lib.hid (HRR.out.step hb2)
      clear HO hb2
      go_wp2_with fail
      refine (R_Promise_none ab n cb ((l.take n).map bareN) c most _ NB.1 (bareL_caps _ _) HGB.out HNO.out).mono ?_
      rintro e w3 ⟨rfl, hb3⟩
      have HB3 : Hid (Below w.heap.size w w3) := HB2.out.trans (hb3.mono HB2.out.size)
      have HR3 := Lib.hid (HR2.out.step hb3)
      have hlr3 := HR3.out.lt
      clear hb3 HB2 HR2 NB
      go_upto_region 11 with fail
      obtain ⟨w4, hw4⟩ : ∃ W, w3.alloc (.cells #[.int .i64 0, .int .i64 0, .slice none 0 0, .slice none 0 0] 37) = W := ⟨_, rfl⟩
      rw [hw4]
      have hB34 : Below w3.heap.size w3 w4 := by rw [← hw4]; (repeat' (first | (with_reducible exact Below.refl _ _) | (with_reducible assumption) | (with_reducible exact Bw.out (by with_reducible assumption)) | (with_reducible refine bw_alloc ?_ _) | (with_reducible refine bw_step ?_ (by with_reducible assumption)) | (with_reducible refine Below.alloc ?_ ?_ _) | (with_reducible refine Below.drew ?_) | (with_reducible refine below_drewN ?_ _) | (with_reducible refine Below.setCell ?_ ?_ _) | (with_reducible refine below_step ?_ (by with_reducible assumption) ?_) | (with_reducible exact Nat.le_refl _) | omega | (simp; omega) | (simp; done)))
      have HR4 := Lib.hid (HR3.out.step hB34)
      have hlr4 := HR4.out.lt
      have HB4 : Hid (Below w.heap.size w w4) := HB3.out.trans (hB34.mono HB3.out.size)
      clear hw4 hB34 HR3 hlr3 HB3
      go_wp2_with fail
      go_loopw [16, 17] (fun v i wr => ∃ (k : Nat) (ao : Option Addr) (co : Nat), k ≤ n ∧ i = .int .i64 k ∧ v = .slice ao k co ∧ Hid (InvA w4.heap.size l T wr k 0 (.slice ao k co) (.slice none 0 0)) ∧ Hid (Below w4.heap.size w4 wr)) (fun _ i _ => n - (intOf i).toNat)
      case atStart => exact ⟨0, none, 0, Nat.zero_le _, rfl, rfl, InvA.start _ _ _ _, Below.refl _ _⟩
      case round =>
        obtain ⟨k, ao, co, hk, rfl, rfl, hI, hB⟩ := hrel
        have hBw : Hid (Below w.heap.size w wr) := HB4.out.trans (hB.out.mono HB4.out.size)
        have hsz := hB.out.size
        by_cases hlt : k < n
        · obtain ⟨x, b0, off, hx, hd, hin, hpx, hb, c0, c1, c2⟩ := HS.out.get hlt
          obtain ⟨z, b1, off1, hz, hpz, hbz, KZ, z0⟩ := HT.out.get hlt
          subst hpx hpz
          have E0 : CellAt w b0 (off + k * 3) (.int .i64 x.rooms) := c0
          have E1 : CellAt w b0 (off + k * 3 + 1) (.int .i64 x.sold) := c1
          have F0 : CellAt w b1 (off1 + k) (.slice z.at' z.n z.cap) := z0
          have X0 := E0.step hBw.out
          have X1 := E1.step hBw.out
          have Z0 := F0.step hBw.out
          have KZr := KZ.step hBw.out
          have HX := Lib.hid hx
          have HZZ := Lib.hid hz
          have hnx := nightsB_at H1.out hx
          have hsb := HSH.out _ _ hz
          have hso := HALL.out k x hx
          have hok : okA x.rooms x.sold z.zs c most = true := by
            obtain ⟨_, _, q3, q4⟩ := nightB_parts hnx
            obtain ⟨g1, g2⟩ := sharesB_in hsb
            unfold okA
            rw [nightB_of g1 g2 q3 q4, H2.out, H3.out]; rfl
          have HOK := Lib.hid hok
          have hso0 : 0 ≤ x.rooms + most - x.sold := by omega
          obtain ⟨D, hD⟩ : ∃ D, divA z.zs c (x.rooms + most - x.sold) = D := ⟨_, rfl⟩
          have HD := Lib.hid hD
          have HDL : Hid (D.length = z.n) := by show _ = _; rw [← hD, divA, divP_length]; exact KZ.1
          have i1 : (0 : Int) ≤ (k : Int) := by omega
          have i2 : (k : Int) < (n : Int) := by omega
          clear hx hz hnx hsb hok hD hd hin c0 c1 c2 z0 hb hbz KZ hso
          go_upto_region 15 with fail
          go_region_held3 (fun w' => w'.cell? ⟨b0, off + k * 3, none⟩ = some (.int .i64 x.rooms) ∧ w'.cell? ⟨b0, off + k * 3 + 1, none⟩ = some (.int .i64 x.sold) ∧ w'.cell? ⟨b1, off1 + k, none⟩ = some (.slice z.at' z.n z.cap) ∧ Bw wr.heap.size wr w')
            (((try go_split_ands); exact ⟨CellAt.out (by (repeat' (first | (with_reducible assumption) | (with_reducible refine CellAt.drew ?_) | (with_reducible refine CellAt.drewN ?_ _) | (with_reducible refine CellAt.alloc ?_ _) | (with_reducible refine CellAt.step ?_ (by with_reducible assumption))))), CellAt.out (by (repeat' (first | (with_reducible assumption) | (with_reducible refine CellAt.drew ?_) | (with_reducible refine CellAt.drewN ?_ _) | (with_reducible refine CellAt.alloc ?_ _) | (with_reducible refine CellAt.step ?_ (by with_reducible assumption))))), CellAt.out (by (repeat' (first | (with_reducible assumption) | (with_reducible refine CellAt.drew ?_) | (with_reducible refine CellAt.drewN ?_ _) | (with_reducible refine CellAt.alloc ?_ _) | (with_reducible refine CellAt.step ?_ (by with_reducible assumption))))), (by (repeat' (first | (with_reducible exact Below.refl _ _) | (with_reducible assumption) | (with_reducible exact Bw.out (by with_reducible assumption)) | (with_reducible refine bw_alloc ?_ _) | (with_reducible refine bw_step ?_ (by with_reducible assumption)) | (with_reducible refine Below.alloc ?_ ?_ _) | (with_reducible refine Below.drew ?_) | (with_reducible refine below_drewN ?_ _) | (with_reducible refine Below.setCell ?_ ?_ _) | (with_reducible refine below_step ?_ (by with_reducible assumption) ?_) | (with_reducible exact Nat.le_refl _) | omega | (simp; omega) | (simp; done))) : Below _ _ _)⟩))
            (first | (go_at_call 15; (with_reducible refine (rShares_ok x.rooms x.sold most c z.at' z.n z.cap z.zs _ (by (repeat' (first | (with_reducible assumption) | (with_reducible refine SlC.drew ?_) | (with_reducible refine SlC.drewN ?_ _) | (with_reducible refine SlC.alloc ?_ _) | (with_reducible refine SlC.step ?_ (by with_reducible assumption))))) HOK.out hso0 D HD.out).mono ?_); rintro e wx ⟨ad7, cp7, rfl, KD, hbx⟩; obtain ⟨hcx, hzx⟩ := bcell hbx; have hsx := hbx.size; (try simp at hsx); have hsy := bsize hbx))
          rename_i hH
          obtain ⟨_, _, _, hHB⟩ := hH
          have hI7 := hI.out.step hHB.out
          have KD7 : OwnV wx w4.heap.size (.slice ad7 z.n cp7) D := KD.low (by have := hsz; simpa using this)
          have HB7 : Hid (Below w4.heap.size w4 wx) := hB.out.trans (hHB.out.mono hsz)
          have hBw7 : Below w.heap.size w wx := hBw.out.trans (hHB.out.mono hBw.out.size)
          have X07 := E0.step hBw7
          have X17 := E1.step hBw7
          clear hcx hzx hsx hsy hHB X0 X1 Z0 KZr KD hbx hI hB hBw hsz F0
          go_upto_region 16 with fail
          refine AnyJ.beginP (fun w' : World => w'.cell? ⟨b0, off + k * 3, none⟩ = some (.int .i64 x.rooms) ∧ w'.cell? ⟨b0, off + k * 3 + 1, none⟩ = some (.int .i64 x.sold)) (fun _ => true) (by kernel_rfl) ⟨X07.out, X17.out⟩ (fun hS => ?_)
          refine AnyJ.takeD (i := 0) (d := some 91) (v := ?_) rfl (by kernel_rfl) (by kernel_rfl) (by kernel_rfl) (by kernel_rfl) (by kernel_rfl) (fun _ _ _ h => h) (Or.inl ⟨by kernel_rfl, ?_⟩) hS ?_
          rotate_left
          · intro w' hS
            clear hS
            go_simp
            try with_reducible rfl
          refine AnyJ.takeD (i := 1) (d := some 92) (v := ?_) rfl (by kernel_rfl) (by kernel_rfl) (by kernel_rfl) (by kernel_rfl) (by kernel_rfl) (fun _ _ _ h => h) (Or.inl ⟨by kernel_rfl, ?_⟩) hS ?_
          rotate_left
          · intro w' hS
            clear hS
            go_simp
            try with_reducible rfl
          refine AnyJ.takeD (i := 2) (d := some 93) (v := ?_) rfl (by kernel_rfl) (by kernel_rfl) (by kernel_rfl) (by kernel_rfl) (by kernel_rfl) (fun _ _ _ h => h) (Or.inl ⟨by kernel_rfl, ?_⟩) hS ?_
          rotate_left
          · intro w' hS
            clear hS
            go_simp
            try with_reducible rfl
          refine AnyJ.takeD (i := 3) (d := some 94) (v := ?_) rfl (by kernel_rfl) (by kernel_rfl) (by kernel_rfl) (by kernel_rfl) (by kernel_rfl) (fun _ _ _ h => h) (Or.inl ⟨by kernel_rfl, ?_⟩) hS ?_
          rotate_left
          · intro w' hS
            obtain ⟨sF0, sF1⟩ := hS
            go_simp
            try with_reducible rfl
          refine AnyJ.takeD (i := 4) (d := some 95) (v := ?_) rfl (by kernel_rfl) (by kernel_rfl) (by kernel_rfl) (by kernel_rfl) (by kernel_rfl) (fun _ _ _ h => h) (Or.inl ⟨by kernel_rfl, ?_⟩) hS ?_
          rotate_left
          · intro w' hS
            obtain ⟨sF0, sF1⟩ := hS
            go_simp
            try with_reducible rfl
          refine AnyJ.takeD (i := 5) (d := some 96) (v := ?_) rfl (by kernel_rfl) (by kernel_rfl) (by kernel_rfl) (by kernel_rfl) (by kernel_rfl) (fun _ _ _ h => h) (Or.inl ⟨by kernel_rfl, ?_⟩) hS ?_
          rotate_left
          · intro w' hS
            obtain ⟨sF0, sF1⟩ := hS
            go_simp
            try with_reducible rfl
          refine AnyJ.takeD (i := 6) (d := some 97) (v := ?_) rfl (by kernel_rfl) (by kernel_rfl) (by kernel_rfl) (by kernel_rfl) (by kernel_rfl) (fun _ _ _ h => h) (Or.inl ⟨by kernel_rfl, ?_⟩) hS ?_
          rotate_left
          · intro w' hS
            clear hS
            go_simp
            try with_reducible rfl
          refine AnyJ.takeD (i := 7) (d := some 98) (v := ?_) rfl (by kernel_rfl) (by kernel_rfl) (by kernel_rfl) (by kernel_rfl) (by kernel_rfl) (fun _ _ _ h => h) (Or.inl ⟨by kernel_rfl, ?_⟩) hS ?_
          rotate_left
          · intro w' hS
            clear hS
            go_simp
            try with_reducible rfl
          refine AnyJ.takeD (i := 8) (d := some 99) (v := ?_) rfl (by kernel_rfl) (by kernel_rfl) (by kernel_rfl) (by kernel_rfl) (by kernel_rfl) (fun _ _ _ h => h) (Or.inl ⟨by kernel_rfl, ?_⟩) hS ?_
          rotate_left
          · intro w' hS
            obtain ⟨sF0, sF1⟩ := hS
            go_simp
            try with_reducible rfl
          refine AnyJ.takeD (i := 9) (d := some 100) (v := ?_) rfl (by kernel_rfl) (by kernel_rfl) (by kernel_rfl) (by kernel_rfl) (by kernel_rfl) (fun _ _ _ h => h) (Or.inl ⟨by kernel_rfl, ?_⟩) hS ?_
          rotate_left
          · intro w' hS
            obtain ⟨sF0, sF1⟩ := hS
            go_simp
            try with_reducible rfl
          refine AnyJ.takeD (i := 10) (d := some 101) (v := ?_) rfl (by kernel_rfl) (by kernel_rfl) (by kernel_rfl) (by kernel_rfl) (by kernel_rfl) (fun _ _ _ h => h) (Or.inl ⟨by kernel_rfl, ?_⟩) hS ?_
          rotate_left
          · intro w' hS
            obtain ⟨sF0, sF1⟩ := hS
            go_simp
            try with_reducible rfl
          refine AnyJ.takeD (i := 11) (d := some 102) (v := ?_) rfl (by kernel_rfl) (by kernel_rfl) (by kernel_rfl) (by kernel_rfl) (by kernel_rfl) (fun _ _ _ h => h) (Or.inl ⟨by kernel_rfl, ?_⟩) hS ?_
          rotate_left
          · intro w' hS
            clear hS
            go_simp
            try with_reducible rfl
          refine AnyJ.takeD (i := 12) (d := some 103) (v := ?_) rfl (by kernel_rfl) (by kernel_rfl) (by kernel_rfl) (by kernel_rfl) (by kernel_rfl) (fun _ _ _ h => h) (Or.inl ⟨by kernel_rfl, ?_⟩) hS ?_
          rotate_left
          · intro w' hS
            clear hS
            go_simp
            try with_reducible rfl
          clear hS
          obtain ⟨Lo, o1, o2, o3⟩ := hI7.out
          have hTl : T.length = n := by rw [← HTT.out, plT_length c most l ls (by omega)]; exact hl
          have HLo : Hid (Lo.length = k) := by
            show _ = _
            have h1 := congrArg List.length o2
            simp at h1
            omega
          refine AnyJ.one (i := 13) (by kernel_rfl) rfl (fun Kz hKz => ?_)
          go_simp
          have hal : Below wx.heap.size wx ((wx.alloc (.cells #[.int .i64 x.rooms, .int .i64 x.sold, .slice ad7 z.n cp7] 24)).drew) := by (repeat' (first | (with_reducible exact Below.refl _ _) | (with_reducible assumption) | (with_reducible exact Bw.out (by with_reducible assumption)) | (with_reducible refine bw_alloc ?_ _) | (with_reducible refine bw_step ?_ (by with_reducible assumption)) | (with_reducible refine Below.alloc ?_ ?_ _) | (with_reducible refine Below.drew ?_) | (with_reducible refine below_drewN ?_ _) | (with_reducible refine Below.setCell ?_ ?_ _) | (with_reducible refine below_step ?_ (by with_reducible assumption) ?_) | (with_reducible exact Nat.le_refl _) | omega | (simp; omega) | (simp; done)))
          have R3 : Row ((wx.alloc (.cells #[.int .i64 x.rooms, .int .i64 x.sold, .slice ad7 z.n cp7] 24)).drew) wx.heap.size [.int .i64 x.rooms, .int .i64 x.sold, .slice ad7 z.n cp7] := (Row.new' _ _ _ rfl).drew
          have hs3 : ((wx.alloc (.cells #[.int .i64 x.rooms, .int .i64 x.sold, .slice ad7 z.n cp7] 24)).drew).heap.size = wx.heap.size + 1 := by simp
          generalize ((wx.alloc (.cells #[.int .i64 x.rooms, .int .i64 x.sold, .slice ad7 z.n cp7] 24)).drew) = w8 at hal R3 hs3 ⊢
          have hI8 := hI7.step hal
          have o18 := o1.step hal
          have o38 : ∀ x ∈ Lo, OwnV w8 w4.heap.size (.slice x.at' x.n x.cap) x.zs ∧ x.zs.length = x.n := fun y hy => ⟨(o3 y hy).1.step hal, (o3 y hy).2⟩
          have KD8 := KD7.step hal
          have hB8 : Below w4.heap.size w4 w8 := HB7.out.trans (hal.mono HB7.out.size)
          have hBw8 : Below w.heap.size w w8 := hBw7.trans (hal.mono hBw7.size)
          refine hKz _ _ (fun _ => ⟨(E0.step hBw8).out, (E1.step hBw8).out⟩) ?_
          clear hKz Kz
          refine AnyJ.one (i := 14) (by kernel_rfl) rfl (fun Kz hKz => ?_)
          refine step_app_night rfl (.tmp 91) (.tmp 104) 25 rfl Try.underlying25 w4.heap.size _ Lo (by simp [Act.eval, Act.put]) o18 wx.heap.size 1 ⟨x.rooms, x.sold, ad7, z.n, cp7, D⟩ (by simp [Act.eval, Act.put]) R3 (by rw [HLo.out]; omega) hB8.size ?_
          intro gg cp2 w9 hown hgr hor
          rw [HLo.out] at hown ⊢
          have hTq : T[k]? = some (triN ⟨x.rooms, x.sold, ad7, z.n, cp7, D⟩) := by rw [← HTT.out, plT_at HX.out HZZ.out, HD.out]; rfl
          have hI9 : InvA w4.heap.size l T w9 (k + 1) 0 (.slice (some ⟨gg, 0, none⟩) (k + 1) cp2) (.slice none 0 0) := InvA.addO hI8 o18 o2 o38 hTq ⟨KD8, HDL.out⟩ hown hgr (hor.imp (fun e => e.symm) (fun e => by rw [e]; rfl))
          have hB9 : Below w4.heap.size w4 w9 := hB8.grown hgr hB8.size (fun g e => (o18.lt g e).1)
          have hBw9 : Below w.heap.size w w9 := hBw8.grown hgr hBw8.size (fun g e => by have := (o18.lt g e).1; have := HB4.out.size; omega)
          have HI9 := Lib.hid hI9
          have HB9 := Lib.hid hB9
          have hS9 : w9.cell? ⟨b0, off + k * 3, none⟩ = some (.int .i64 x.rooms) ∧ w9.cell? ⟨b0, off + k * 3 + 1, none⟩ = some (.int .i64 x.sold) := ⟨(E0.step hBw9).out, (E1.step hBw9).out⟩
          refine hKz _ _ (fun _ => hS9) ?_
          clear hKz Kz hown hgr hor hI8 o18 o38 KD8 hB8 hBw8 hTq hI9 hB9 hBw9 hal R3 hs3 hI7 KD7 HB7 hBw7 X07 X17 E0 E1 o1 o2 o3
          refine AnyJ.takeD (i := 15) (d := some 16) (v := .slice (some ⟨gg, 0, none⟩) (k + 1) cp2) rfl (by kernel_rfl) (by kernel_rfl) (by kernel_rfl) (by kernel_rfl) (by kernel_rfl) (fun _ _ _ h => h) (Or.inl ⟨by kernel_rfl, ?_⟩) hS9 ?_
          · intro w' hS
            clear hS
            go_simp
            try with_reducible rfl
          clear hS9
          refine AnyJ.done (by kernel_rfl) ?_ _
          try simp only [Act.put, List.setIfInBounds_toArray, List.set_cons_zero, List.set_cons_succ]
          go_wp2_with fail
          go_roundw
          case rel => exact ⟨k + 1, some ⟨gg, 0, none⟩, cp2, by omega, by go_num, rfl, HI9.out, HB9.out⟩
          case measure => simp [intOf]; omega
        · obtain rfl : n = k := by omega
          have Rr := HR4.out.below hB.out hlr4
          have lr := Rr.lt
          obtain ⟨Lo, o1, o2, o3⟩ := hI.out.out
          have hTl : T.length = n := by rw [← HTT.out, plT_length c most l ls (by omega)]; exact hl
          rw [List.take_of_length_le (by omega)] at o2
          obtain ⟨WZ, hWZ⟩ : ∃ W, (((wr.setCell ⟨w.heap.size, 0, none⟩ (.int .i64 0)).setCell ⟨w.heap.size, 1, none⟩ (.int .i64 0)).setCell ⟨w.heap.size, 2, none⟩ (.slice none 0 0)).setCell ⟨w.heap.size, 3, none⟩ (.slice none 0 0) = W := ⟨_, rfl⟩
          have hBz : Below w.heap.size w WZ := by rw [← hWZ]; exact Below.setCell (Below.setCell (Below.setCell (Below.setCell hBw.out (Nat.le_refl _) _) (Nat.le_refl _) _) (Nat.le_refl _) _) (Nat.le_refl _) _
          have hbk : ∀ g, w4.heap.size ≤ g → WZ.heap[g]? = wr.heap[g]? := fun g hg => by
            rw [← hWZ]
            rw [Below.heap_setCell _ _ _ _ (by simp; omega), Below.heap_setCell _ _ _ _ (by simp; omega), Below.heap_setCell _ _ _ _ (by simp; omega), Below.heap_setCell _ _ _ _ (by simp; omega)]
          have o1z : OwnN WZ w4.heap.size (.slice ao n co) Lo := o1.of_block (fun g hg => hbk g (o1.lt g hg).1)
          have o3z : ∀ x ∈ Lo, x.In WZ ∧ x.n ≤ x.cap ∧ x.cap ≤ maxLen := fun x hx => by
            have h1 : OwnV WZ w4.heap.size (.slice x.at' x.n x.cap) x.zs := (o3 x hx).1.of_block (fun g hg => hbk g (World.ownsRow.lt (o3 x hx).1 g hg).1)
            obtain ⟨h2, h3, h4, h5⟩ := h1.sl.parts
            exact ⟨⟨by unfold maxLen at h5; omega, h3⟩, h4, h5⟩
          have hsl := o1z.sl (fun x hx => (o3z x hx).1)
          have hcp : ∀ x ∈ Lo, x.n ≤ x.cap ∧ x.cap ≤ maxLen := fun x hx => (o3z x hx).2
          have HSL := Lib.hid hsl
          have HCP := Lib.hid hcp
          have HO2 := Lib.hid o2
          clear o1 o2 o3 hsl hcp hI hTl o1z o3z hbk
          have hBr : Below w.heap.size w wr := hBw.out
          have d0 := Rr.cell 0 rfl
          have d1 := Rr.cell 1 rfl
          have d2 := Rr.cell 2 rfl
          have d3 := Rr.cell 3 rfl
          have e0 := Rr.frozen 0
          have e1 := Rr.frozen 1
          have e2 := Rr.frozen 2
          have e3 := Rr.frozen 3
          have dl := Rr.lt
          have RZ := Row.set4' ⟨_, _, _, _, Rr⟩ (.int .i64 0) (.int .i64 0) (.slice none 0 0) (.slice none 0 0)
          have z0 := RZ.cell 0 rfl
          have z1 := RZ.cell 1 rfl
          have z2 := RZ.cell 2 rfl
          have z3 := RZ.cell 3 rfl
          have zl := RZ.lt
          go_wp2_with fail
          rw [hWZ] at z0 z1 z2 z3 zl
          refine bodyPost_ret (v := .tuple #[.slice ao n co, .agg #[.int .i64 0, .int .i64 0, .slice none 0 0, .slice none 0 0], .bool true, .int .i64 0]) (by simp [results, Try.results20, go_sem, z0, z1, z2, z3, zl]) rfl ⟨ao, co, Lo, rfl, HSL.out.1, HCP.out, by show _ = _; rw [HO2.out, HTT.out], hBz⟩

end Go.Proofs.Ytijbhdpaikajkaa
