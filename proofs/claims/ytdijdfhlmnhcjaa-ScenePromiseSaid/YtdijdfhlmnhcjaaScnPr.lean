/-
  ScenePromise: a scene that worst.Promise returns is valid, walks as many guests as it says, which are more than was promised, and its sales are counted so; if it returns none, no valid scene with at most so many channels walks more.
  No condition: for every input.
-/
import Derived.Test.YtdijdfhlmnhcjaaScnW
import Derived.Test.YtdijdfhlmnhcjaaScnP
import Derived.Test.YtdijdfhlmnhcjaaWPlain
namespace Go.Proofs.Ytdijdfhlmnhcjaa
set_option linter.unusedSimpArgs false
set_option linter.unusedVariables false
open Go.ChangeShapes Go.WideShapes Go.ChangeAt Go.RowKit Go.MapKept

theorem shIn_of {r s : Int} {zs : List Int} (h : nightB r s zs = true) : shIn zs := (sh_bounds h).2
/-- The scene of Promise can happen. -/
theorem promise_open {l : List NightV} (h : nightsB l = true) {i c : Nat} {r s most : Int} {ad : Option Addr} {nn cc : Nat} {sz C Y : List Int} {W : Int} (hx : l[i]? = some ⟨r, s, ad, nn, cc, sz⟩) (hm : 0 ≤ most) (hm2 : most ≤ 255) (hb : brk c most ⟨r, s, ad, nn, cc, sz⟩ = true)
    (hW : scW r s most = W) (hC : sellC sz (scL r s most) (topL sz c) = C) (hY : sellS sz (scL r s most) (topL sz c) = Y) :
    openB l (i : Int) W C Y = true ∧ runI l (i : Int) Y = W ∧ most < W ∧ C.length ≤ c := by
  have hn := nightsB_at h hx
  simp only [] at hn
  obtain ⟨⟨r0, r1⟩, d0, d1⟩ := nightB_nums hn
  obtain ⟨b1, b2⟩ := sh_bounds hn
  have hbk := brk_wk.1 hb
  simp only [] at hbk
  obtain ⟨p1, p2, p3, p4, p5, p6⟩ := sc_parts hm (shIn_of hn) hbk
  have hlen := sell_len sz (topL sz c) (scL r s most)
  rw [hC, hY] at hlen p6
  rw [hC] at p1 p2
  rw [hW] at p3 p4 p5
  rw [hY] at p5
  have htl : i < l.length := (List.getElem?_eq_some_iff.1 hx).1
  have hWb : W ≤ 1400 := by
    have hW' : scW r s most = max (s - r) (most + 1) := rfl
    omega
  refine ⟨?_, ?_, p4, p1⟩
  · unfold openB
    rw [h, Int.toNat_natCast, shAt_get hx, decide_eq_true hlen.symm, inR_iff.2 ⟨by omega, by omega⟩, inR_iff.2 ⟨by omega, by omega⟩, cutB_good (fun j hj => ?_)]
    · rfl
    · obtain ⟨⟨q1, q2⟩, q3, q4⟩ := p6 j hj
      unfold chanB
      rw [decide_eq_false (not_in_take p2 hj), inR_iff.2 ⟨q1, by show _ ≤ (sz.length : Int) - 1; omega⟩, (inR_iff.2 ⟨by omega, q4⟩ : inR (Y.getD j 0) 0 (sz.getD (C.getD j 0).toNat 0) = true)]
      rfl
  · rw [runI_at (x := ⟨r, s, ad, nn, cc, sz⟩) (by rw [Int.toNat_natCast]; exact hx), mxI_max]
    simp only []
    omega
/-- If no night breaks the promise, no valid scene does. -/
theorem promise_none {l : List NightV} {c : Nat} {most : Int} (h : l.any (brk c most) = false) {nt wd : Int} {zs ys : List Int} (ho : openB l nt wd zs ys = true) (hz : zs.length ≤ c) : runI l nt ys ≤ most := by
  obtain ⟨x, hx, _⟩ := openB_night ho
  exact Int.le_trans (run_worst ho hx hz) (brk_wkf.1 (any_brk h hx))

theorem Sales_c (a : Option Addr) (n cap : Nat) (l : List NightV) (nt wd : Int) (ac : Option Addr) (nc cc : Nat) (zs : List Int) (as' : Option Addr) (ns cs : Nat) (ys : List Int) (kd : Int) (w : World)
    (hn : n ≤ 9223372036854775807) (hnc : nc ≤ 9223372036854775807) (hns : ns ≤ 9223372036854775807) (hs : SlN w a n l) (hz : SlI w ac nc zs) (hy : SlI w as' ns ys) (hb : (openB l nt wd zs ys && inR kd 1 20) = true) (N : Nat) (hN : (salesX l nt kd zs ys).length = N) :
    Calls Try.prog 15 #[.slice a n cap, .agg #[.int .i64 nt, .int .i64 wd, .slice ac nc cc, .slice as' ns cs], .int .i64 kd] w
      fun e w' => ∃ ad cp, e = .returned (.tuple #[.slice ad N cp, .int .i64 0]) ∧ SlS w' ad N (salesX l nt kd zs ys) ∧ Below w.heap.size w w' := by
  refine (Sales_ok a n cap l nt wd ac nc cc zs as' ns cs ys kd w hn hnc hns hs hz hy hb).mono ?_
  rintro e w' ⟨v, base, rfl, hv, _, hb⟩
  obtain ⟨ad, cp, rfl, hv⟩ := hv.shape N hN
  exact ⟨ad, cp, rfl, hv.sl.1, hb⟩
theorem sales_wf {l : List NightV} {nt wd kd : Int} {zs ys : List Int} (h : openB l nt wd zs ys = true) (hk : inR kd 1 20 = true) : ∀ x ∈ salesX l nt kd zs ys, SaleWf x := fun x hx => by
  have h1 := (salesB_in (sales_right h hk)).1 x hx
  obtain ⟨a1, a2, a3, a4⟩ := saleB_in h1
  have := askB_in a4
  unfold SaleWf I64
  omega

set_option maxRecDepth 100000 in
set_option maxHeartbeats 12800000 in
theorem scprom_walk (a : Option Addr) (n cap : Nat) (l : List NightV) (nt wd : Int) (ac : Option Addr) (nc cc : Nat) (zs : List Int) (as' : Option Addr) (ns cs : Nat) (ys : List Int) (y q : Int) (hwl : ∀ x ∈ l, NightWf x) (_ : ScnWf nt wd zs ys) (hwy : (Lit.int .u8 y).wf = true) (hwq : (Lit.int .u8 q).wf = true) (w : World)
    (hl : SlN w a n l ∧ n ≤ cap ∧ cap ≤ maxLen) (hS : ScnIn w nt wd ac nc cc zs as' ns cs ys) :
    Calls Try.prog 8 #[.slice a n cap, .agg #[.int .i64 nt, .int .i64 wd, .slice ac nc cc, .slice as' ns cs], .int .u8 y, .int .u8 q] w fun e w' => e = .returned (.bool true) ∧ Below w.heap.size w w' := by
  obtain ⟨hs, k1, k2⟩ := hl
  obtain ⟨hz, hy, k3, k4, k5, k6⟩ := hS
  unfold maxLen at k2 k4 k6
  have HS := Lib.hid hs
  have HZ := Lib.hid hz
  have HY := Lib.hid hy
  have HL := Lib.hid hs.1
  have HZL := Lib.hid hz.1
  obtain ⟨y0, y1⟩ := bd_u8 hwy
  obtain ⟨q0, q1⟩ := bd_u8 hwq
  have HCP := Lib.hid (wf_capsX hwl)
  have hn : n ≤ 9223372036854775807 := by omega
  have hnc : nc ≤ 9223372036854775807 := by omega
  have hns : ns ≤ 9223372036854775807 := by omega
  clear hs hz hy hwy hwq hwl
  cases hF : fewB l [] [] with
  | false =>
    go_enter Try.func8, Try.ntmps8
    go_wp2_with fail
    refine (s_head_any _).mono ?_
    rintro e w1 ⟨rfl, hb1⟩
    have R_s_1 : Row w1 (w.heap.size) [.int .i64 nt, .int .i64 wd, .slice ac nc cc, .slice as' ns cs] := by (repeat' (first | (with_reducible assumption) | (with_reducible refine Row.new' _ _ _ (by first | rfl | (simp; done) | omega)) | (with_reducible refine Row.alloc ?_ _) | (with_reducible refine Row.drew ?_) | (with_reducible refine Row.drewN ?_ _) | (with_reducible refine Row.step ?_ (by with_reducible assumption)) | (with_reducible refine Row.set2' ?_ _ _; first | exact ⟨_, _, by with_reducible assumption⟩ | exact ⟨_, _, Row.alloc (by with_reducible assumption) _⟩ | exact ⟨_, _, Row.alloc (Row.alloc (by with_reducible assumption) _) _⟩) | (with_reducible refine Row.other ?_ (by first | omega | (simp; done) | (simp; omega)) _)))
    have c_s_0_1 := R_s_1.cell 0 rfl
    have c_s_1_1 := R_s_1.cell 1 rfl
    have c_s_2_1 := R_s_1.cell 2 rfl
    have c_s_3_1 := R_s_1.cell 3 rfl
    have l_s_1 := R_s_1.lt
    have HB1 : Below w.heap.size w w1 := by (repeat' (first | (with_reducible exact Below.refl _ _) | (with_reducible assumption) | (with_reducible exact Bw.out (by with_reducible assumption)) | (with_reducible refine bw_alloc ?_ _) | (with_reducible refine bw_step ?_ (by with_reducible assumption)) | (with_reducible refine Below.alloc ?_ ?_ _) | (with_reducible refine Below.drew ?_) | (with_reducible refine below_drewN ?_ _) | (with_reducible refine Below.setCell ?_ ?_ _) | (with_reducible refine below_step ?_ (by with_reducible assumption) ?_) | (with_reducible exact Nat.le_refl _) | omega | (simp; omega) | (simp; done)))
    go_wp2_with fail
    refine (R_Few25 a n cap l none 0 0 [] none 0 0 [] _ hn (by omega) (by omega) (HS.out.below (by (repeat' (first | (with_reducible exact Below.refl _ _) | (with_reducible assumption) | (with_reducible exact Bw.out (by with_reducible assumption)) | (with_reducible refine bw_alloc ?_ _) | (with_reducible refine bw_step ?_ (by with_reducible assumption)) | (with_reducible refine Below.alloc ?_ ?_ _) | (with_reducible refine Below.drew ?_) | (with_reducible refine below_drewN ?_ _) | (with_reducible refine Below.setCell ?_ ?_ _) | (with_reducible refine below_step ?_ (by with_reducible assumption) ?_) | (with_reducible exact Nat.le_refl _) | omega | (simp; omega) | (simp; done))))) rfl rfl _ hF).mono ?_
    rintro e w' ⟨rfl, hw'⟩
    rw [hw']
    clear hw' w'
    go_wp2_with fail
    go_ret
    refine ⟨(by first | rfl | exact ret_bool (by first | rfl | (simp; done) | (simp; omega))), ?_⟩
    (repeat' (first | (with_reducible exact Below.refl _ _) | (with_reducible assumption) | (with_reducible exact Bw.out (by with_reducible assumption)) | (with_reducible refine bw_alloc ?_ _) | (with_reducible refine bw_step ?_ (by with_reducible assumption)) | (with_reducible refine Below.alloc ?_ ?_ _) | (with_reducible refine Below.drew ?_) | (with_reducible refine below_drewN ?_ _) | (with_reducible refine Below.setCell ?_ ?_ _) | (with_reducible refine below_step ?_ (by with_reducible assumption) ?_) | (with_reducible exact Nat.le_refl _) | omega | (simp; omega) | (simp; done)))
  | true =>
    cases hN : nightsB l with
    | false =>
      go_enter Try.func8, Try.ntmps8
      go_wp2_with fail
      refine (s_head_any _).mono ?_
      rintro e w1 ⟨rfl, hb1⟩
      have R_s_1 : Row w1 (w.heap.size) [.int .i64 nt, .int .i64 wd, .slice ac nc cc, .slice as' ns cs] := by (repeat' (first | (with_reducible assumption) | (with_reducible refine Row.new' _ _ _ (by first | rfl | (simp; done) | omega)) | (with_reducible refine Row.alloc ?_ _) | (with_reducible refine Row.drew ?_) | (with_reducible refine Row.drewN ?_ _) | (with_reducible refine Row.step ?_ (by with_reducible assumption)) | (with_reducible refine Row.set2' ?_ _ _; first | exact ⟨_, _, by with_reducible assumption⟩ | exact ⟨_, _, Row.alloc (by with_reducible assumption) _⟩ | exact ⟨_, _, Row.alloc (Row.alloc (by with_reducible assumption) _) _⟩) | (with_reducible refine Row.other ?_ (by first | omega | (simp; done) | (simp; omega)) _)))
      have c_s_0_1 := R_s_1.cell 0 rfl
      have c_s_1_1 := R_s_1.cell 1 rfl
      have c_s_2_1 := R_s_1.cell 2 rfl
      have c_s_3_1 := R_s_1.cell 3 rfl
      have l_s_1 := R_s_1.lt
      have HB1 : Below w.heap.size w w1 := by (repeat' (first | (with_reducible exact Below.refl _ _) | (with_reducible assumption) | (with_reducible exact Bw.out (by with_reducible assumption)) | (with_reducible refine bw_alloc ?_ _) | (with_reducible refine bw_step ?_ (by with_reducible assumption)) | (with_reducible refine Below.alloc ?_ ?_ _) | (with_reducible refine Below.drew ?_) | (with_reducible refine below_drewN ?_ _) | (with_reducible refine Below.setCell ?_ ?_ _) | (with_reducible refine below_step ?_ (by with_reducible assumption) ?_) | (with_reducible exact Nat.le_refl _) | omega | (simp; omega) | (simp; done)))
      go_wp2_with fail
      refine (R_Few25 a n cap l none 0 0 [] none 0 0 [] _ hn (by omega) (by omega) (HS.out.below (by (repeat' (first | (with_reducible exact Below.refl _ _) | (with_reducible assumption) | (with_reducible exact Bw.out (by with_reducible assumption)) | (with_reducible refine bw_alloc ?_ _) | (with_reducible refine bw_step ?_ (by with_reducible assumption)) | (with_reducible refine Below.alloc ?_ ?_ _) | (with_reducible refine Below.drew ?_) | (with_reducible refine below_drewN ?_ _) | (with_reducible refine Below.setCell ?_ ?_ _) | (with_reducible refine below_step ?_ (by with_reducible assumption) ?_) | (with_reducible exact Nat.le_refl _) | omega | (simp; omega) | (simp; done))))) rfl rfl _ hF).mono ?_
      rintro e w' ⟨rfl, hw'⟩
      rw [hw']
      clear hw' w'
      go_wp2_with fail
      refine (R_valid_any a n cap l _ hn (HS.out.below (by (repeat' (first | (with_reducible exact Below.refl _ _) | (with_reducible assumption) | (with_reducible exact Bw.out (by with_reducible assumption)) | (with_reducible refine bw_alloc ?_ _) | (with_reducible refine bw_step ?_ (by with_reducible assumption)) | (with_reducible refine Below.alloc ?_ ?_ _) | (with_reducible refine Below.drew ?_) | (with_reducible refine below_drewN ?_ _) | (with_reducible refine Below.setCell ?_ ?_ _) | (with_reducible refine below_step ?_ (by with_reducible assumption) ?_) | (with_reducible exact Nat.le_refl _) | omega | (simp; omega) | (simp; done))))) false hN).mono ?_
      rintro e w2 ⟨rfl, hb2⟩
      have R_s_2 : Row w2 (w.heap.size) [.int .i64 nt, .int .i64 wd, .slice ac nc cc, .slice as' ns cs] := by (repeat' (first | (with_reducible assumption) | (with_reducible refine Row.new' _ _ _ (by first | rfl | (simp; done) | omega)) | (with_reducible refine Row.alloc ?_ _) | (with_reducible refine Row.drew ?_) | (with_reducible refine Row.drewN ?_ _) | (with_reducible refine Row.step ?_ (by with_reducible assumption)) | (with_reducible refine Row.set2' ?_ _ _; first | exact ⟨_, _, by with_reducible assumption⟩ | exact ⟨_, _, Row.alloc (by with_reducible assumption) _⟩ | exact ⟨_, _, Row.alloc (Row.alloc (by with_reducible assumption) _) _⟩) | (with_reducible refine Row.other ?_ (by first | omega | (simp; done) | (simp; omega)) _)))
      have c_s_0_2 := R_s_2.cell 0 rfl
      have c_s_1_2 := R_s_2.cell 1 rfl
      have c_s_2_2 := R_s_2.cell 2 rfl
      have c_s_3_2 := R_s_2.cell 3 rfl
      have l_s_2 := R_s_2.lt
      have HB2 : Below w.heap.size w w2 := by (repeat' (first | (with_reducible exact Below.refl _ _) | (with_reducible assumption) | (with_reducible exact Bw.out (by with_reducible assumption)) | (with_reducible refine bw_alloc ?_ _) | (with_reducible refine bw_step ?_ (by with_reducible assumption)) | (with_reducible refine Below.alloc ?_ ?_ _) | (with_reducible refine Below.drew ?_) | (with_reducible refine below_drewN ?_ _) | (with_reducible refine Below.setCell ?_ ?_ _) | (with_reducible refine below_step ?_ (by with_reducible assumption) ?_) | (with_reducible exact Nat.le_refl _) | omega | (simp; omega) | (simp; done)))
      clear R_s_1 c_s_0_1 c_s_1_1 c_s_2_1 c_s_3_1 hb1 HB1
      go_wp2_with fail
      go_ret
      refine ⟨(by first | rfl | exact ret_bool (by first | rfl | (simp; done) | (simp; omega))), ?_⟩
      (repeat' (first | (with_reducible exact Below.refl _ _) | (with_reducible assumption) | (with_reducible exact Bw.out (by with_reducible assumption)) | (with_reducible refine bw_alloc ?_ _) | (with_reducible refine bw_step ?_ (by with_reducible assumption)) | (with_reducible refine Below.alloc ?_ ?_ _) | (with_reducible refine Below.drew ?_) | (with_reducible refine below_drewN ?_ _) | (with_reducible refine Below.setCell ?_ ?_ _) | (with_reducible refine below_step ?_ (by with_reducible assumption) ?_) | (with_reducible exact Nat.le_refl _) | omega | (simp; omega) | (simp; done)))
    | true =>
      have HN := Lib.hid hN
      obtain ⟨Y, rfl⟩ := Int.eq_ofNat_of_zero_le y0
      obtain ⟨Q, rfl⟩ := Int.eq_ofNat_of_zero_le q0
      obtain ⟨c, hc⟩ : ∃ c : Nat, Y % 31 = c := ⟨_, rfl⟩
      have hc30 : c ≤ 30 := by omega
      have hmod : ((Y : Int)).tmod 31 = (c : Int) := by rw [← hc]; rfl
      have hwY : IntKind.i64.wrap (Y : Int) = (Y : Int) := IntWalk.i64_in _ (by omega)
      have hwc : IntKind.i64.wrap (c : Int) = (c : Int) := IntWalk.i64_in _ (by omega)
      have hwQ : IntKind.i64.wrap (Q : Int) = (Q : Int) := IntWalk.i64_in _ (by omega)
      have HBB : Hid ((nightsB l && inB (c : Int) 30 && inB (Q : Int) 1000) = true) := by
        show _ = _; rw [hN, inB_true (by omega) (by omega), inB_true (by omega) (by omega)]; rfl
      have hn366 : n ≤ 366 := by have := nightsB_len hN; have := HL.out; omega
      rcases first_brk (brk c (Q : Int)) l with hno | ⟨i, x, hi, hx, hbr, _⟩
      · have HNO := Lib.hid hno
        clear hc hN hno
        go_enter Try.func8, Try.ntmps8
        go_wp2_with fail
        refine (s_head_any _).mono ?_
        rintro e w1 ⟨rfl, hb1⟩
        have R_s_1 : Row w1 (w.heap.size) [.int .i64 nt, .int .i64 wd, .slice ac nc cc, .slice as' ns cs] := by (repeat' (first | (with_reducible assumption) | (with_reducible refine Row.new' _ _ _ (by first | rfl | (simp; done) | omega)) | (with_reducible refine Row.alloc ?_ _) | (with_reducible refine Row.drew ?_) | (with_reducible refine Row.drewN ?_ _) | (with_reducible refine Row.step ?_ (by with_reducible assumption)) | (with_reducible refine Row.set2' ?_ _ _; first | exact ⟨_, _, by with_reducible assumption⟩ | exact ⟨_, _, Row.alloc (by with_reducible assumption) _⟩ | exact ⟨_, _, Row.alloc (Row.alloc (by with_reducible assumption) _) _⟩) | (with_reducible refine Row.other ?_ (by first | omega | (simp; done) | (simp; omega)) _)))
        have c_s_0_1 := R_s_1.cell 0 rfl
        have c_s_1_1 := R_s_1.cell 1 rfl
        have c_s_2_1 := R_s_1.cell 2 rfl
        have c_s_3_1 := R_s_1.cell 3 rfl
        have l_s_1 := R_s_1.lt
        have HB1 : Below w.heap.size w w1 := by (repeat' (first | (with_reducible exact Below.refl _ _) | (with_reducible assumption) | (with_reducible exact Bw.out (by with_reducible assumption)) | (with_reducible refine bw_alloc ?_ _) | (with_reducible refine bw_step ?_ (by with_reducible assumption)) | (with_reducible refine Below.alloc ?_ ?_ _) | (with_reducible refine Below.drew ?_) | (with_reducible refine below_drewN ?_ _) | (with_reducible refine Below.setCell ?_ ?_ _) | (with_reducible refine below_step ?_ (by with_reducible assumption) ?_) | (with_reducible exact Nat.le_refl _) | omega | (simp; omega) | (simp; done)))
        go_wp2_with fail
        refine (R_Few25 a n cap l none 0 0 [] none 0 0 [] _ hn (by omega) (by omega) (HS.out.below (by (repeat' (first | (with_reducible exact Below.refl _ _) | (with_reducible assumption) | (with_reducible exact Bw.out (by with_reducible assumption)) | (with_reducible refine bw_alloc ?_ _) | (with_reducible refine bw_step ?_ (by with_reducible assumption)) | (with_reducible refine Below.alloc ?_ ?_ _) | (with_reducible refine Below.drew ?_) | (with_reducible refine below_drewN ?_ _) | (with_reducible refine Below.setCell ?_ ?_ _) | (with_reducible refine below_step ?_ (by with_reducible assumption) ?_) | (with_reducible exact Nat.le_refl _) | omega | (simp; omega) | (simp; done))))) rfl rfl _ hF).mono ?_
        rintro e w' ⟨rfl, hw'⟩
        rw [hw']
        clear hw' w'
        go_wp2_with fail
        refine (R_valid_any a n cap l _ hn (HS.out.below (by (repeat' (first | (with_reducible exact Below.refl _ _) | (with_reducible assumption) | (with_reducible exact Bw.out (by with_reducible assumption)) | (with_reducible refine bw_alloc ?_ _) | (with_reducible refine bw_step ?_ (by with_reducible assumption)) | (with_reducible refine Below.alloc ?_ ?_ _) | (with_reducible refine Below.drew ?_) | (with_reducible refine below_drewN ?_ _) | (with_reducible refine Below.setCell ?_ ?_ _) | (with_reducible refine below_step ?_ (by with_reducible assumption) ?_) | (with_reducible exact Nat.le_refl _) | omega | (simp; omega) | (simp; done))))) true HN.out).mono ?_
        rintro e w2 ⟨rfl, hb2⟩
        have R_s_2 : Row w2 (w.heap.size) [.int .i64 nt, .int .i64 wd, .slice ac nc cc, .slice as' ns cs] := by (repeat' (first | (with_reducible assumption) | (with_reducible refine Row.new' _ _ _ (by first | rfl | (simp; done) | omega)) | (with_reducible refine Row.alloc ?_ _) | (with_reducible refine Row.drew ?_) | (with_reducible refine Row.drewN ?_ _) | (with_reducible refine Row.step ?_ (by with_reducible assumption)) | (with_reducible refine Row.set2' ?_ _ _; first | exact ⟨_, _, by with_reducible assumption⟩ | exact ⟨_, _, Row.alloc (by with_reducible assumption) _⟩ | exact ⟨_, _, Row.alloc (Row.alloc (by with_reducible assumption) _) _⟩) | (with_reducible refine Row.other ?_ (by first | omega | (simp; done) | (simp; omega)) _)))
        have c_s_0_2 := R_s_2.cell 0 rfl
        have c_s_1_2 := R_s_2.cell 1 rfl
        have c_s_2_2 := R_s_2.cell 2 rfl
        have c_s_3_2 := R_s_2.cell 3 rfl
        have l_s_2 := R_s_2.lt
        have HB2 : Below w.heap.size w w2 := by (repeat' (first | (with_reducible exact Below.refl _ _) | (with_reducible assumption) | (with_reducible exact Bw.out (by with_reducible assumption)) | (with_reducible refine bw_alloc ?_ _) | (with_reducible refine bw_step ?_ (by with_reducible assumption)) | (with_reducible refine Below.alloc ?_ ?_ _) | (with_reducible refine Below.drew ?_) | (with_reducible refine below_drewN ?_ _) | (with_reducible refine Below.setCell ?_ ?_ _) | (with_reducible refine below_step ?_ (by with_reducible assumption) ?_) | (with_reducible exact Nat.le_refl _) | omega | (simp; omega) | (simp; done)))
        clear R_s_1 c_s_0_1 c_s_1_1 c_s_2_1 c_s_3_1 hb1 HB1
        go_wp2_with fail
        refine (Promise_none a n cap l c (Q : Int) _ (HS.out.below (by (repeat' (first | (with_reducible exact Below.refl _ _) | (with_reducible assumption) | (with_reducible exact Bw.out (by with_reducible assumption)) | (with_reducible refine bw_alloc ?_ _) | (with_reducible refine bw_step ?_ (by with_reducible assumption)) | (with_reducible refine Below.alloc ?_ ?_ _) | (with_reducible refine Below.drew ?_) | (with_reducible refine below_drewN ?_ _) | (with_reducible refine Below.setCell ?_ ?_ _) | (with_reducible refine below_step ?_ (by with_reducible assumption) ?_) | (with_reducible exact Nat.le_refl _) | omega | (simp; omega) | (simp; done))))) HCP.out HBB.out HNO.out).mono ?_
        rintro e w3 ⟨rfl, hb3⟩
        have R_s_3 : Row w3 (w.heap.size) [.int .i64 nt, .int .i64 wd, .slice ac nc cc, .slice as' ns cs] := by (repeat' (first | (with_reducible assumption) | (with_reducible refine Row.new' _ _ _ (by first | rfl | (simp; done) | omega)) | (with_reducible refine Row.alloc ?_ _) | (with_reducible refine Row.drew ?_) | (with_reducible refine Row.drewN ?_ _) | (with_reducible refine Row.step ?_ (by with_reducible assumption)) | (with_reducible refine Row.set2' ?_ _ _; first | exact ⟨_, _, by with_reducible assumption⟩ | exact ⟨_, _, Row.alloc (by with_reducible assumption) _⟩ | exact ⟨_, _, Row.alloc (Row.alloc (by with_reducible assumption) _) _⟩) | (with_reducible refine Row.other ?_ (by first | omega | (simp; done) | (simp; omega)) _)))
        have c_s_0_3 := R_s_3.cell 0 rfl
        have c_s_1_3 := R_s_3.cell 1 rfl
        have c_s_2_3 := R_s_3.cell 2 rfl
        have c_s_3_3 := R_s_3.cell 3 rfl
        have l_s_3 := R_s_3.lt
        have HB3 : Below w.heap.size w w3 := by (repeat' (first | (with_reducible exact Below.refl _ _) | (with_reducible assumption) | (with_reducible exact Bw.out (by with_reducible assumption)) | (with_reducible refine bw_alloc ?_ _) | (with_reducible refine bw_step ?_ (by with_reducible assumption)) | (with_reducible refine Below.alloc ?_ ?_ _) | (with_reducible refine Below.drew ?_) | (with_reducible refine below_drewN ?_ _) | (with_reducible refine Below.setCell ?_ ?_ _) | (with_reducible refine below_step ?_ (by with_reducible assumption) ?_) | (with_reducible exact Nat.le_refl _) | omega | (simp; omega) | (simp; done)))
        clear R_s_2 c_s_0_2 c_s_1_2 c_s_2_2 c_s_3_2 hb2 HB2
        clear hmod hwY hwc
        cases hU : usB25 l nt wd zs ys with
        | false =>
          go_wp2_with fail
          refine (usable25 a n cap l nt wd ac nc cc zs as' ns cs ys _ hn hnc hns (HS.out.below (by (repeat' (first | (with_reducible exact Below.refl _ _) | (with_reducible assumption) | (with_reducible exact Bw.out (by with_reducible assumption)) | (with_reducible refine bw_alloc ?_ _) | (with_reducible refine bw_step ?_ (by with_reducible assumption)) | (with_reducible refine Below.alloc ?_ ?_ _) | (with_reducible refine Below.drew ?_) | (with_reducible refine below_drewN ?_ _) | (with_reducible refine Below.setCell ?_ ?_ _) | (with_reducible refine below_step ?_ (by with_reducible assumption) ?_) | (with_reducible exact Nat.le_refl _) | omega | (simp; omega) | (simp; done))))) (HZ.out.below (by (repeat' (first | (with_reducible exact Below.refl _ _) | (with_reducible assumption) | (with_reducible exact Bw.out (by with_reducible assumption)) | (with_reducible refine bw_alloc ?_ _) | (with_reducible refine bw_step ?_ (by with_reducible assumption)) | (with_reducible refine Below.alloc ?_ ?_ _) | (with_reducible refine Below.drew ?_) | (with_reducible refine below_drewN ?_ _) | (with_reducible refine Below.setCell ?_ ?_ _) | (with_reducible refine below_step ?_ (by with_reducible assumption) ?_) | (with_reducible exact Nat.le_refl _) | omega | (simp; omega) | (simp; done))))) (HY.out.below (by (repeat' (first | (with_reducible exact Below.refl _ _) | (with_reducible assumption) | (with_reducible exact Bw.out (by with_reducible assumption)) | (with_reducible refine bw_alloc ?_ _) | (with_reducible refine bw_step ?_ (by with_reducible assumption)) | (with_reducible refine Below.alloc ?_ ?_ _) | (with_reducible refine Below.drew ?_) | (with_reducible refine below_drewN ?_ _) | (with_reducible refine Below.setCell ?_ ?_ _) | (with_reducible refine below_step ?_ (by with_reducible assumption) ?_) | (with_reducible exact Nat.le_refl _) | omega | (simp; omega) | (simp; done))))) false hU).mono ?_
          rintro e w4 ⟨rfl, hb4⟩
          have R_s_4 : Row w4 (w.heap.size) [.int .i64 nt, .int .i64 wd, .slice ac nc cc, .slice as' ns cs] := by (repeat' (first | (with_reducible assumption) | (with_reducible refine Row.new' _ _ _ (by first | rfl | (simp; done) | omega)) | (with_reducible refine Row.alloc ?_ _) | (with_reducible refine Row.drew ?_) | (with_reducible refine Row.drewN ?_ _) | (with_reducible refine Row.step ?_ (by with_reducible assumption)) | (with_reducible refine Row.set2' ?_ _ _; first | exact ⟨_, _, by with_reducible assumption⟩ | exact ⟨_, _, Row.alloc (by with_reducible assumption) _⟩ | exact ⟨_, _, Row.alloc (Row.alloc (by with_reducible assumption) _) _⟩) | (with_reducible refine Row.other ?_ (by first | omega | (simp; done) | (simp; omega)) _)))
          have c_s_0_4 := R_s_4.cell 0 rfl
          have c_s_1_4 := R_s_4.cell 1 rfl
          have c_s_2_4 := R_s_4.cell 2 rfl
          have c_s_3_4 := R_s_4.cell 3 rfl
          have l_s_4 := R_s_4.lt
          have HB4 : Below w.heap.size w w4 := by (repeat' (first | (with_reducible exact Below.refl _ _) | (with_reducible assumption) | (with_reducible exact Bw.out (by with_reducible assumption)) | (with_reducible refine bw_alloc ?_ _) | (with_reducible refine bw_step ?_ (by with_reducible assumption)) | (with_reducible refine Below.alloc ?_ ?_ _) | (with_reducible refine Below.drew ?_) | (with_reducible refine below_drewN ?_ _) | (with_reducible refine Below.setCell ?_ ?_ _) | (with_reducible refine below_step ?_ (by with_reducible assumption) ?_) | (with_reducible exact Nat.le_refl _) | omega | (simp; omega) | (simp; done)))
          clear R_s_3 c_s_0_3 c_s_1_3 c_s_2_3 c_s_3_3 hb3 HB3
          go_wp2_with fail
          go_ret
          refine ⟨(by first | rfl | exact ret_bool (by first | rfl | (simp; done) | (simp; omega))), ?_⟩
          (repeat' (first | (with_reducible exact Below.refl _ _) | (with_reducible assumption) | (with_reducible exact Bw.out (by with_reducible assumption)) | (with_reducible refine bw_alloc ?_ _) | (with_reducible refine bw_step ?_ (by with_reducible assumption)) | (with_reducible refine Below.alloc ?_ ?_ _) | (with_reducible refine Below.drew ?_) | (with_reducible refine below_drewN ?_ _) | (with_reducible refine Below.setCell ?_ ?_ _) | (with_reducible refine below_step ?_ (by with_reducible assumption) ?_) | (with_reducible exact Nat.le_refl _) | omega | (simp; omega) | (simp; done)))
        | true =>
          have hO : openB l nt wd zs ys = true := by
            have := hU
            unfold usB25 at this
            simp only [Bool.and_eq_true, decide_eq_true_eq] at this
            exact this.2.2.2
          go_wp2_with fail
          refine (usable25 a n cap l nt wd ac nc cc zs as' ns cs ys _ hn hnc hns (HS.out.below (by (repeat' (first | (with_reducible exact Below.refl _ _) | (with_reducible assumption) | (with_reducible exact Bw.out (by with_reducible assumption)) | (with_reducible refine bw_alloc ?_ _) | (with_reducible refine bw_step ?_ (by with_reducible assumption)) | (with_reducible refine Below.alloc ?_ ?_ _) | (with_reducible refine Below.drew ?_) | (with_reducible refine below_drewN ?_ _) | (with_reducible refine Below.setCell ?_ ?_ _) | (with_reducible refine below_step ?_ (by with_reducible assumption) ?_) | (with_reducible exact Nat.le_refl _) | omega | (simp; omega) | (simp; done))))) (HZ.out.below (by (repeat' (first | (with_reducible exact Below.refl _ _) | (with_reducible assumption) | (with_reducible exact Bw.out (by with_reducible assumption)) | (with_reducible refine bw_alloc ?_ _) | (with_reducible refine bw_step ?_ (by with_reducible assumption)) | (with_reducible refine Below.alloc ?_ ?_ _) | (with_reducible refine Below.drew ?_) | (with_reducible refine below_drewN ?_ _) | (with_reducible refine Below.setCell ?_ ?_ _) | (with_reducible refine below_step ?_ (by with_reducible assumption) ?_) | (with_reducible exact Nat.le_refl _) | omega | (simp; omega) | (simp; done))))) (HY.out.below (by (repeat' (first | (with_reducible exact Below.refl _ _) | (with_reducible assumption) | (with_reducible exact Bw.out (by with_reducible assumption)) | (with_reducible refine bw_alloc ?_ _) | (with_reducible refine bw_step ?_ (by with_reducible assumption)) | (with_reducible refine Below.alloc ?_ ?_ _) | (with_reducible refine Below.drew ?_) | (with_reducible refine below_drewN ?_ _) | (with_reducible refine Below.setCell ?_ ?_ _) | (with_reducible refine below_step ?_ (by with_reducible assumption) ?_) | (with_reducible exact Nat.le_refl _) | omega | (simp; omega) | (simp; done))))) true hU).mono ?_
          rintro e w4 ⟨rfl, hb4⟩
          have R_s_4 : Row w4 (w.heap.size) [.int .i64 nt, .int .i64 wd, .slice ac nc cc, .slice as' ns cs] := by (repeat' (first | (with_reducible assumption) | (with_reducible refine Row.new' _ _ _ (by first | rfl | (simp; done) | omega)) | (with_reducible refine Row.alloc ?_ _) | (with_reducible refine Row.drew ?_) | (with_reducible refine Row.drewN ?_ _) | (with_reducible refine Row.step ?_ (by with_reducible assumption)) | (with_reducible refine Row.set2' ?_ _ _; first | exact ⟨_, _, by with_reducible assumption⟩ | exact ⟨_, _, Row.alloc (by with_reducible assumption) _⟩ | exact ⟨_, _, Row.alloc (Row.alloc (by with_reducible assumption) _) _⟩) | (with_reducible refine Row.other ?_ (by first | omega | (simp; done) | (simp; omega)) _)))
          have c_s_0_4 := R_s_4.cell 0 rfl
          have c_s_1_4 := R_s_4.cell 1 rfl
          have c_s_2_4 := R_s_4.cell 2 rfl
          have c_s_3_4 := R_s_4.cell 3 rfl
          have l_s_4 := R_s_4.lt
          have HB4 : Below w.heap.size w w4 := by (repeat' (first | (with_reducible exact Below.refl _ _) | (with_reducible assumption) | (with_reducible exact Bw.out (by with_reducible assumption)) | (with_reducible refine bw_alloc ?_ _) | (with_reducible refine bw_step ?_ (by with_reducible assumption)) | (with_reducible refine Below.alloc ?_ ?_ _) | (with_reducible refine Below.drew ?_) | (with_reducible refine below_drewN ?_ _) | (with_reducible refine Below.setCell ?_ ?_ _) | (with_reducible refine below_step ?_ (by with_reducible assumption) ?_) | (with_reducible exact Nat.le_refl _) | omega | (simp; omega) | (simp; done)))
          clear R_s_3 c_s_0_3 c_s_1_3 c_s_2_3 c_s_3_3 hb3 HB3
          by_cases hcn : nc ≤ c
          · have i1 : ¬ (c : Int) < (nc : Int) := by omega
            have hle := promise_none HNO.out hO (by rw [HZL.out]; exact hcn)
            obtain ⟨R, hR⟩ : ∃ R, runI l nt ys = R := ⟨_, rfl⟩
            rw [hR] at hle
            have HR := Lib.hid hR
            have HO := Lib.hid hO
            clear hR hO hU
            go_wp2_with fail
            refine (Run_ok a n cap l nt wd ac nc cc zs as' ns cs ys _ hn hnc hns (HS.out.below (by (repeat' (first | (with_reducible exact Below.refl _ _) | (with_reducible assumption) | (with_reducible exact Bw.out (by with_reducible assumption)) | (with_reducible refine bw_alloc ?_ _) | (with_reducible refine bw_step ?_ (by with_reducible assumption)) | (with_reducible refine Below.alloc ?_ ?_ _) | (with_reducible refine Below.drew ?_) | (with_reducible refine below_drewN ?_ _) | (with_reducible refine Below.setCell ?_ ?_ _) | (with_reducible refine below_step ?_ (by with_reducible assumption) ?_) | (with_reducible exact Nat.le_refl _) | omega | (simp; omega) | (simp; done))))) (HZ.out.below (by (repeat' (first | (with_reducible exact Below.refl _ _) | (with_reducible assumption) | (with_reducible exact Bw.out (by with_reducible assumption)) | (with_reducible refine bw_alloc ?_ _) | (with_reducible refine bw_step ?_ (by with_reducible assumption)) | (with_reducible refine Below.alloc ?_ ?_ _) | (with_reducible refine Below.drew ?_) | (with_reducible refine below_drewN ?_ _) | (with_reducible refine Below.setCell ?_ ?_ _) | (with_reducible refine below_step ?_ (by with_reducible assumption) ?_) | (with_reducible exact Nat.le_refl _) | omega | (simp; omega) | (simp; done))))) (HY.out.below (by (repeat' (first | (with_reducible exact Below.refl _ _) | (with_reducible assumption) | (with_reducible exact Bw.out (by with_reducible assumption)) | (with_reducible refine bw_alloc ?_ _) | (with_reducible refine bw_step ?_ (by with_reducible assumption)) | (with_reducible refine Below.alloc ?_ ?_ _) | (with_reducible refine Below.drew ?_) | (with_reducible refine below_drewN ?_ _) | (with_reducible refine Below.setCell ?_ ?_ _) | (with_reducible refine below_step ?_ (by with_reducible assumption) ?_) | (with_reducible exact Nat.le_refl _) | omega | (simp; omega) | (simp; done))))) HO.out R HR.out).mono ?_
            rintro e w5 ⟨rfl, hb5⟩
            have R_s_5 : Row w5 (w.heap.size) [.int .i64 nt, .int .i64 wd, .slice ac nc cc, .slice as' ns cs] := by (repeat' (first | (with_reducible assumption) | (with_reducible refine Row.new' _ _ _ (by first | rfl | (simp; done) | omega)) | (with_reducible refine Row.alloc ?_ _) | (with_reducible refine Row.drew ?_) | (with_reducible refine Row.drewN ?_ _) | (with_reducible refine Row.step ?_ (by with_reducible assumption)) | (with_reducible refine Row.set2' ?_ _ _; first | exact ⟨_, _, by with_reducible assumption⟩ | exact ⟨_, _, Row.alloc (by with_reducible assumption) _⟩ | exact ⟨_, _, Row.alloc (Row.alloc (by with_reducible assumption) _) _⟩) | (with_reducible refine Row.other ?_ (by first | omega | (simp; done) | (simp; omega)) _)))
            have c_s_0_5 := R_s_5.cell 0 rfl
            have c_s_1_5 := R_s_5.cell 1 rfl
            have c_s_2_5 := R_s_5.cell 2 rfl
            have c_s_3_5 := R_s_5.cell 3 rfl
            have l_s_5 := R_s_5.lt
            have HB5 : Below w.heap.size w w5 := by (repeat' (first | (with_reducible exact Below.refl _ _) | (with_reducible assumption) | (with_reducible exact Bw.out (by with_reducible assumption)) | (with_reducible refine bw_alloc ?_ _) | (with_reducible refine bw_step ?_ (by with_reducible assumption)) | (with_reducible refine Below.alloc ?_ ?_ _) | (with_reducible refine Below.drew ?_) | (with_reducible refine below_drewN ?_ _) | (with_reducible refine Below.setCell ?_ ?_ _) | (with_reducible refine below_step ?_ (by with_reducible assumption) ?_) | (with_reducible exact Nat.le_refl _) | omega | (simp; omega) | (simp; done)))
            clear R_s_4 c_s_0_4 c_s_1_4 c_s_2_4 c_s_3_4 hb4 HB4
            go_wp2_with fail
            go_ret
            refine ⟨(by first | rfl | exact ret_bool (by first | rfl | (simp; done) | (simp; omega))), ?_⟩
            (repeat' (first | (with_reducible exact Below.refl _ _) | (with_reducible assumption) | (with_reducible exact Bw.out (by with_reducible assumption)) | (with_reducible refine bw_alloc ?_ _) | (with_reducible refine bw_step ?_ (by with_reducible assumption)) | (with_reducible refine Below.alloc ?_ ?_ _) | (with_reducible refine Below.drew ?_) | (with_reducible refine below_drewN ?_ _) | (with_reducible refine Below.setCell ?_ ?_ _) | (with_reducible refine below_step ?_ (by with_reducible assumption) ?_) | (with_reducible exact Nat.le_refl _) | omega | (simp; omega) | (simp; done)))
          · have i1 : (c : Int) < (nc : Int) := by omega
            go_wp2_with fail
            go_ret
            refine ⟨(by first | rfl | exact ret_bool (by first | rfl | (simp; done) | (simp; omega))), ?_⟩
            (repeat' (first | (with_reducible exact Below.refl _ _) | (with_reducible assumption) | (with_reducible exact Bw.out (by with_reducible assumption)) | (with_reducible refine bw_alloc ?_ _) | (with_reducible refine bw_step ?_ (by with_reducible assumption)) | (with_reducible refine Below.alloc ?_ ?_ _) | (with_reducible refine Below.drew ?_) | (with_reducible refine below_drewN ?_ _) | (with_reducible refine Below.setCell ?_ ?_ _) | (with_reducible refine below_step ?_ (by with_reducible assumption) ?_) | (with_reducible exact Nat.le_refl _) | omega | (simp; omega) | (simp; done)))
      · obtain ⟨rm, sd, sa, sn, sc, sz⟩ := x
        obtain ⟨W, hW⟩ : ∃ W, scW rm sd (Q : Int) = W := ⟨_, rfl⟩
        obtain ⟨C, hC⟩ : ∃ C, sellC sz (scL rm sd (Q : Int)) (topL sz c) = C := ⟨_, rfl⟩
        obtain ⟨D, hD⟩ : ∃ D, sellS sz (scL rm sd (Q : Int)) (topL sz c) = D := ⟨_, rfl⟩
        obtain ⟨m, hm⟩ : ∃ m, C.length = m := ⟨_, rfl⟩
        obtain ⟨o1, o2, o3, o4⟩ := promise_open hN hx (by omega) (by omega) hbr hW hC hD
        rw [hm] at o4
        have hin : i < n := by have := HL.out; have := (List.getElem?_eq_some_iff.1 hx).1; omega
        have hm30 : m ≤ 30 := by omega
        have hkd : inR 1 1 20 = true := rfl
        have HOK : Hid ((openB l (i : Int) W C D && inR 1 1 20) = true) := by show _ = _; rw [o1]; rfl
        obtain ⟨S, hS⟩ : ∃ S, salesX l (i : Int) 1 C D = S := ⟨_, rfl⟩
        obtain ⟨N, hSN⟩ : ∃ N, S.length = N := ⟨_, rfl⟩
        have hsb := sales_right o1 hkd
        have hwf := sales_wf o1 hkd
        have hcnt := sales_count (kd := 1) o1 (show i < l.length by rw [HL.out]; exact hin)
        rw [hS] at hsb hwf hcnt
        rw [if_pos rfl, o2] at hcnt
        have HCB : Hid (cntB l S [] = true) := cntB_none hN hsb
        have HNS : Hid ((salesX l (i : Int) 1 C D).length = N) := by show _ = _; rw [hS]; exact hSN
        have HSE := Lib.hid hS
        have HWF := Lib.hid hwf
        have HCNT := Lib.hid hcnt
        have HO := Lib.hid o1
        have HR := Lib.hid o2
        have HX := Lib.hid hx
        have HI := Lib.hid hi
        have HBR := Lib.hid hbr
        have HW := Lib.hid hW
        have HC := Lib.hid hC
        have HD := Lib.hid hD
        have HM := Lib.hid hm
        clear hc hN hx hi hbr hW hC hD hm o1 o2 hS hSN hsb hwf hcnt hkd
        go_enter Try.func8, Try.ntmps8
        go_wp2_with fail
        refine (s_head_any _).mono ?_
        rintro e w1 ⟨rfl, hb1⟩
        have R_s_1 : Row w1 (w.heap.size) [.int .i64 nt, .int .i64 wd, .slice ac nc cc, .slice as' ns cs] := by (repeat' (first | (with_reducible assumption) | (with_reducible refine Row.new' _ _ _ (by first | rfl | (simp; done) | omega)) | (with_reducible refine Row.alloc ?_ _) | (with_reducible refine Row.drew ?_) | (with_reducible refine Row.drewN ?_ _) | (with_reducible refine Row.step ?_ (by with_reducible assumption)) | (with_reducible refine Row.set2' ?_ _ _; first | exact ⟨_, _, by with_reducible assumption⟩ | exact ⟨_, _, Row.alloc (by with_reducible assumption) _⟩ | exact ⟨_, _, Row.alloc (Row.alloc (by with_reducible assumption) _) _⟩) | (with_reducible refine Row.other ?_ (by first | omega | (simp; done) | (simp; omega)) _)))
        have c_s_0_1 := R_s_1.cell 0 rfl
        have c_s_1_1 := R_s_1.cell 1 rfl
        have c_s_2_1 := R_s_1.cell 2 rfl
        have c_s_3_1 := R_s_1.cell 3 rfl
        have l_s_1 := R_s_1.lt
        have HB1 : Below w.heap.size w w1 := by (repeat' (first | (with_reducible exact Below.refl _ _) | (with_reducible assumption) | (with_reducible exact Bw.out (by with_reducible assumption)) | (with_reducible refine bw_alloc ?_ _) | (with_reducible refine bw_step ?_ (by with_reducible assumption)) | (with_reducible refine Below.alloc ?_ ?_ _) | (with_reducible refine Below.drew ?_) | (with_reducible refine below_drewN ?_ _) | (with_reducible refine Below.setCell ?_ ?_ _) | (with_reducible refine below_step ?_ (by with_reducible assumption) ?_) | (with_reducible exact Nat.le_refl _) | omega | (simp; omega) | (simp; done)))
        go_wp2_with fail
        refine (R_Few25 a n cap l none 0 0 [] none 0 0 [] _ hn (by omega) (by omega) (HS.out.below (by (repeat' (first | (with_reducible exact Below.refl _ _) | (with_reducible assumption) | (with_reducible exact Bw.out (by with_reducible assumption)) | (with_reducible refine bw_alloc ?_ _) | (with_reducible refine bw_step ?_ (by with_reducible assumption)) | (with_reducible refine Below.alloc ?_ ?_ _) | (with_reducible refine Below.drew ?_) | (with_reducible refine below_drewN ?_ _) | (with_reducible refine Below.setCell ?_ ?_ _) | (with_reducible refine below_step ?_ (by with_reducible assumption) ?_) | (with_reducible exact Nat.le_refl _) | omega | (simp; omega) | (simp; done))))) rfl rfl _ hF).mono ?_
        rintro e w' ⟨rfl, hw'⟩
        rw [hw']
        clear hw' w'
        go_wp2_with fail
        refine (R_valid_any a n cap l _ hn (HS.out.below (by (repeat' (first | (with_reducible exact Below.refl _ _) | (with_reducible assumption) | (with_reducible exact Bw.out (by with_reducible assumption)) | (with_reducible refine bw_alloc ?_ _) | (with_reducible refine bw_step ?_ (by with_reducible assumption)) | (with_reducible refine Below.alloc ?_ ?_ _) | (with_reducible refine Below.drew ?_) | (with_reducible refine below_drewN ?_ _) | (with_reducible refine Below.setCell ?_ ?_ _) | (with_reducible refine below_step ?_ (by with_reducible assumption) ?_) | (with_reducible exact Nat.le_refl _) | omega | (simp; omega) | (simp; done))))) true HN.out).mono ?_
        rintro e w2 ⟨rfl, hb2⟩
        have R_s_2 : Row w2 (w.heap.size) [.int .i64 nt, .int .i64 wd, .slice ac nc cc, .slice as' ns cs] := by (repeat' (first | (with_reducible assumption) | (with_reducible refine Row.new' _ _ _ (by first | rfl | (simp; done) | omega)) | (with_reducible refine Row.alloc ?_ _) | (with_reducible refine Row.drew ?_) | (with_reducible refine Row.drewN ?_ _) | (with_reducible refine Row.step ?_ (by with_reducible assumption)) | (with_reducible refine Row.set2' ?_ _ _; first | exact ⟨_, _, by with_reducible assumption⟩ | exact ⟨_, _, Row.alloc (by with_reducible assumption) _⟩ | exact ⟨_, _, Row.alloc (Row.alloc (by with_reducible assumption) _) _⟩) | (with_reducible refine Row.other ?_ (by first | omega | (simp; done) | (simp; omega)) _)))
        have c_s_0_2 := R_s_2.cell 0 rfl
        have c_s_1_2 := R_s_2.cell 1 rfl
        have c_s_2_2 := R_s_2.cell 2 rfl
        have c_s_3_2 := R_s_2.cell 3 rfl
        have l_s_2 := R_s_2.lt
        have HB2 : Below w.heap.size w w2 := by (repeat' (first | (with_reducible exact Below.refl _ _) | (with_reducible assumption) | (with_reducible exact Bw.out (by with_reducible assumption)) | (with_reducible refine bw_alloc ?_ _) | (with_reducible refine bw_step ?_ (by with_reducible assumption)) | (with_reducible refine Below.alloc ?_ ?_ _) | (with_reducible refine Below.drew ?_) | (with_reducible refine below_drewN ?_ _) | (with_reducible refine Below.setCell ?_ ?_ _) | (with_reducible refine below_step ?_ (by with_reducible assumption) ?_) | (with_reducible exact Nat.le_refl _) | omega | (simp; omega) | (simp; done)))
        clear R_s_1 c_s_0_1 c_s_1_1 c_s_2_1 c_s_3_1 hb1 HB1
        go_wp2_with fail
        refine (Promise_c a n cap l c (Q : Int) i rm sd sz sn sc _ (HS.out.below (by (repeat' (first | (with_reducible exact Below.refl _ _) | (with_reducible assumption) | (with_reducible exact Bw.out (by with_reducible assumption)) | (with_reducible refine bw_alloc ?_ _) | (with_reducible refine bw_step ?_ (by with_reducible assumption)) | (with_reducible refine Below.alloc ?_ ?_ _) | (with_reducible refine Below.drew ?_) | (with_reducible refine below_drewN ?_ _) | (with_reducible refine Below.setCell ?_ ?_ _) | (with_reducible refine below_step ?_ (by with_reducible assumption) ?_) | (with_reducible exact Nat.le_refl _) | omega | (simp; omega) | (simp; done))))) HCP.out HBB.out sa HX.out HI.out HBR.out W C D m HW.out HC.out HD.out HM.out (c : Int) rfl).mono ?_
        rintro e w3 ⟨a1, d1, a2, d2, rfl, KC, KD, hb3⟩
        have R_s_3 : Row w3 (w.heap.size) [.int .i64 nt, .int .i64 wd, .slice ac nc cc, .slice as' ns cs] := by (repeat' (first | (with_reducible assumption) | (with_reducible refine Row.new' _ _ _ (by first | rfl | (simp; done) | omega)) | (with_reducible refine Row.alloc ?_ _) | (with_reducible refine Row.drew ?_) | (with_reducible refine Row.drewN ?_ _) | (with_reducible refine Row.step ?_ (by with_reducible assumption)) | (with_reducible refine Row.set2' ?_ _ _; first | exact ⟨_, _, by with_reducible assumption⟩ | exact ⟨_, _, Row.alloc (by with_reducible assumption) _⟩ | exact ⟨_, _, Row.alloc (Row.alloc (by with_reducible assumption) _) _⟩) | (with_reducible refine Row.other ?_ (by first | omega | (simp; done) | (simp; omega)) _)))
        have c_s_0_3 := R_s_3.cell 0 rfl
        have c_s_1_3 := R_s_3.cell 1 rfl
        have c_s_2_3 := R_s_3.cell 2 rfl
        have c_s_3_3 := R_s_3.cell 3 rfl
        have l_s_3 := R_s_3.lt
        have HB3 : Below w.heap.size w w3 := by (repeat' (first | (with_reducible exact Below.refl _ _) | (with_reducible assumption) | (with_reducible exact Bw.out (by with_reducible assumption)) | (with_reducible refine bw_alloc ?_ _) | (with_reducible refine bw_step ?_ (by with_reducible assumption)) | (with_reducible refine Below.alloc ?_ ?_ _) | (with_reducible refine Below.drew ?_) | (with_reducible refine below_drewN ?_ _) | (with_reducible refine Below.setCell ?_ ?_ _) | (with_reducible refine below_step ?_ (by with_reducible assumption) ?_) | (with_reducible exact Nat.le_refl _) | omega | (simp; omega) | (simp; done)))
        clear R_s_2 c_s_0_2 c_s_1_2 c_s_2_2 c_s_3_2 hb2 HB2
        clear hmod hwY hwc
        go_upto_region 6 with fail
        go_wp2_with fail
        refine (Run_ok a n cap l (i : Int) W a1 m d1 C a2 m d2 D _ hn (by omega) (by omega) (HS.out.below (by (repeat' (first | (with_reducible exact Below.refl _ _) | (with_reducible assumption) | (with_reducible exact Bw.out (by with_reducible assumption)) | (with_reducible refine bw_alloc ?_ _) | (with_reducible refine bw_step ?_ (by with_reducible assumption)) | (with_reducible refine Below.alloc ?_ ?_ _) | (with_reducible refine Below.drew ?_) | (with_reducible refine below_drewN ?_ _) | (with_reducible refine Below.setCell ?_ ?_ _) | (with_reducible refine below_step ?_ (by with_reducible assumption) ?_) | (with_reducible exact Nat.le_refl _) | omega | (simp; omega) | (simp; done))))) (KC.step (by (repeat' (first | (with_reducible exact Below.refl _ _) | (with_reducible assumption) | (with_reducible exact Bw.out (by with_reducible assumption)) | (with_reducible refine bw_alloc ?_ _) | (with_reducible refine bw_step ?_ (by with_reducible assumption)) | (with_reducible refine Below.alloc ?_ ?_ _) | (with_reducible refine Below.drew ?_) | (with_reducible refine below_drewN ?_ _) | (with_reducible refine Below.setCell ?_ ?_ _) | (with_reducible refine below_step ?_ (by with_reducible assumption) ?_) | (with_reducible exact Nat.le_refl _) | omega | (simp; omega) | (simp; done))))).sl (KD.step (by (repeat' (first | (with_reducible exact Below.refl _ _) | (with_reducible assumption) | (with_reducible exact Bw.out (by with_reducible assumption)) | (with_reducible refine bw_alloc ?_ _) | (with_reducible refine bw_step ?_ (by with_reducible assumption)) | (with_reducible refine Below.alloc ?_ ?_ _) | (with_reducible refine Below.drew ?_) | (with_reducible refine below_drewN ?_ _) | (with_reducible refine Below.setCell ?_ ?_ _) | (with_reducible refine below_step ?_ (by with_reducible assumption) ?_) | (with_reducible exact Nat.le_refl _) | omega | (simp; omega) | (simp; done))))).sl HO.out W HR.out).mono ?_
        rintro e w4 ⟨rfl, hb4⟩
        have R_s_4 : Row w4 (w.heap.size) [.int .i64 nt, .int .i64 wd, .slice ac nc cc, .slice as' ns cs] := by (repeat' (first | (with_reducible assumption) | (with_reducible refine Row.new' _ _ _ (by first | rfl | (simp; done) | omega)) | (with_reducible refine Row.alloc ?_ _) | (with_reducible refine Row.drew ?_) | (with_reducible refine Row.drewN ?_ _) | (with_reducible refine Row.step ?_ (by with_reducible assumption)) | (with_reducible refine Row.set2' ?_ _ _; first | exact ⟨_, _, by with_reducible assumption⟩ | exact ⟨_, _, Row.alloc (by with_reducible assumption) _⟩ | exact ⟨_, _, Row.alloc (Row.alloc (by with_reducible assumption) _) _⟩) | (with_reducible refine Row.other ?_ (by first | omega | (simp; done) | (simp; omega)) _)))
        have c_s_0_4 := R_s_4.cell 0 rfl
        have c_s_1_4 := R_s_4.cell 1 rfl
        have c_s_2_4 := R_s_4.cell 2 rfl
        have c_s_3_4 := R_s_4.cell 3 rfl
        have l_s_4 := R_s_4.lt
        have R_x_4 : Row w4 (w3.heap.size) [.int .i64 (i : Int), .int .i64 W, .slice a1 m d1, .slice a2 m d2] := by (repeat' (first | (with_reducible assumption) | (with_reducible refine Row.new' _ _ _ (by first | rfl | (simp; done) | omega)) | (with_reducible refine Row.alloc ?_ _) | (with_reducible refine Row.drew ?_) | (with_reducible refine Row.drewN ?_ _) | (with_reducible refine Row.step ?_ (by with_reducible assumption)) | (with_reducible refine Row.set2' ?_ _ _; first | exact ⟨_, _, by with_reducible assumption⟩ | exact ⟨_, _, Row.alloc (by with_reducible assumption) _⟩ | exact ⟨_, _, Row.alloc (Row.alloc (by with_reducible assumption) _) _⟩) | (with_reducible refine Row.other ?_ (by first | omega | (simp; done) | (simp; omega)) _)))
        have c_x_0_4 := R_x_4.cell 0 rfl
        have c_x_1_4 := R_x_4.cell 1 rfl
        have c_x_2_4 := R_x_4.cell 2 rfl
        have c_x_3_4 := R_x_4.cell 3 rfl
        have l_x_4 := R_x_4.lt
        replace KC := KC.step (show Below w3.heap.size w3 w4 by (repeat' (first | (with_reducible exact Below.refl _ _) | (with_reducible assumption) | (with_reducible exact Bw.out (by with_reducible assumption)) | (with_reducible refine bw_alloc ?_ _) | (with_reducible refine bw_step ?_ (by with_reducible assumption)) | (with_reducible refine Below.alloc ?_ ?_ _) | (with_reducible refine Below.drew ?_) | (with_reducible refine below_drewN ?_ _) | (with_reducible refine Below.setCell ?_ ?_ _) | (with_reducible refine below_step ?_ (by with_reducible assumption) ?_) | (with_reducible exact Nat.le_refl _) | omega | (simp; omega) | (simp; done))))
        replace KD := KD.step (show Below w3.heap.size w3 w4 by (repeat' (first | (with_reducible exact Below.refl _ _) | (with_reducible assumption) | (with_reducible exact Bw.out (by with_reducible assumption)) | (with_reducible refine bw_alloc ?_ _) | (with_reducible refine bw_step ?_ (by with_reducible assumption)) | (with_reducible refine Below.alloc ?_ ?_ _) | (with_reducible refine Below.drew ?_) | (with_reducible refine below_drewN ?_ _) | (with_reducible refine Below.setCell ?_ ?_ _) | (with_reducible refine below_step ?_ (by with_reducible assumption) ?_) | (with_reducible exact Nat.le_refl _) | omega | (simp; omega) | (simp; done))))
        have HB4 : Below w.heap.size w w4 := by (repeat' (first | (with_reducible exact Below.refl _ _) | (with_reducible assumption) | (with_reducible exact Bw.out (by with_reducible assumption)) | (with_reducible refine bw_alloc ?_ _) | (with_reducible refine bw_step ?_ (by with_reducible assumption)) | (with_reducible refine Below.alloc ?_ ?_ _) | (with_reducible refine Below.drew ?_) | (with_reducible refine below_drewN ?_ _) | (with_reducible refine Below.setCell ?_ ?_ _) | (with_reducible refine below_step ?_ (by with_reducible assumption) ?_) | (with_reducible exact Nat.le_refl _) | omega | (simp; omega) | (simp; done)))
        clear R_s_3 c_s_0_3 c_s_1_3 c_s_2_3 c_s_3_3 hb3 HB3
        go_wp2_with fail
        refine (Sales_c a n cap l (i : Int) W a1 m d1 C a2 m d2 D 1 _ hn (by omega) (by omega) (HS.out.below (by (repeat' (first | (with_reducible exact Below.refl _ _) | (with_reducible assumption) | (with_reducible exact Bw.out (by with_reducible assumption)) | (with_reducible refine bw_alloc ?_ _) | (with_reducible refine bw_step ?_ (by with_reducible assumption)) | (with_reducible refine Below.alloc ?_ ?_ _) | (with_reducible refine Below.drew ?_) | (with_reducible refine below_drewN ?_ _) | (with_reducible refine Below.setCell ?_ ?_ _) | (with_reducible refine below_step ?_ (by with_reducible assumption) ?_) | (with_reducible exact Nat.le_refl _) | omega | (simp; omega) | (simp; done))))) KC.sl KD.sl HOK.out N HNS.out).mono ?_
        rintro e w5 ⟨ad, cp, rfl, KS, hb5⟩
        have R_s_5 : Row w5 (w.heap.size) [.int .i64 nt, .int .i64 wd, .slice ac nc cc, .slice as' ns cs] := by (repeat' (first | (with_reducible assumption) | (with_reducible refine Row.new' _ _ _ (by first | rfl | (simp; done) | omega)) | (with_reducible refine Row.alloc ?_ _) | (with_reducible refine Row.drew ?_) | (with_reducible refine Row.drewN ?_ _) | (with_reducible refine Row.step ?_ (by with_reducible assumption)) | (with_reducible refine Row.set2' ?_ _ _; first | exact ⟨_, _, by with_reducible assumption⟩ | exact ⟨_, _, Row.alloc (by with_reducible assumption) _⟩ | exact ⟨_, _, Row.alloc (Row.alloc (by with_reducible assumption) _) _⟩) | (with_reducible refine Row.other ?_ (by first | omega | (simp; done) | (simp; omega)) _)))
        have c_s_0_5 := R_s_5.cell 0 rfl
        have c_s_1_5 := R_s_5.cell 1 rfl
        have c_s_2_5 := R_s_5.cell 2 rfl
        have c_s_3_5 := R_s_5.cell 3 rfl
        have l_s_5 := R_s_5.lt
        have R_x_5 : Row w5 (w3.heap.size) [.int .i64 (i : Int), .int .i64 W, .slice a1 m d1, .slice a2 m d2] := by (repeat' (first | (with_reducible assumption) | (with_reducible refine Row.new' _ _ _ (by first | rfl | (simp; done) | omega)) | (with_reducible refine Row.alloc ?_ _) | (with_reducible refine Row.drew ?_) | (with_reducible refine Row.drewN ?_ _) | (with_reducible refine Row.step ?_ (by with_reducible assumption)) | (with_reducible refine Row.set2' ?_ _ _; first | exact ⟨_, _, by with_reducible assumption⟩ | exact ⟨_, _, Row.alloc (by with_reducible assumption) _⟩ | exact ⟨_, _, Row.alloc (Row.alloc (by with_reducible assumption) _) _⟩) | (with_reducible refine Row.other ?_ (by first | omega | (simp; done) | (simp; omega)) _)))
        have c_x_0_5 := R_x_5.cell 0 rfl
        have c_x_1_5 := R_x_5.cell 1 rfl
        have c_x_2_5 := R_x_5.cell 2 rfl
        have c_x_3_5 := R_x_5.cell 3 rfl
        have l_x_5 := R_x_5.lt
        replace KC := KC.step (show Below w4.heap.size w4 w5 by (repeat' (first | (with_reducible exact Below.refl _ _) | (with_reducible assumption) | (with_reducible exact Bw.out (by with_reducible assumption)) | (with_reducible refine bw_alloc ?_ _) | (with_reducible refine bw_step ?_ (by with_reducible assumption)) | (with_reducible refine Below.alloc ?_ ?_ _) | (with_reducible refine Below.drew ?_) | (with_reducible refine below_drewN ?_ _) | (with_reducible refine Below.setCell ?_ ?_ _) | (with_reducible refine below_step ?_ (by with_reducible assumption) ?_) | (with_reducible exact Nat.le_refl _) | omega | (simp; omega) | (simp; done))))
        replace KD := KD.step (show Below w4.heap.size w4 w5 by (repeat' (first | (with_reducible exact Below.refl _ _) | (with_reducible assumption) | (with_reducible exact Bw.out (by with_reducible assumption)) | (with_reducible refine bw_alloc ?_ _) | (with_reducible refine bw_step ?_ (by with_reducible assumption)) | (with_reducible refine Below.alloc ?_ ?_ _) | (with_reducible refine Below.drew ?_) | (with_reducible refine below_drewN ?_ _) | (with_reducible refine Below.setCell ?_ ?_ _) | (with_reducible refine below_step ?_ (by with_reducible assumption) ?_) | (with_reducible exact Nat.le_refl _) | omega | (simp; omega) | (simp; done))))
        have HB5 : Below w.heap.size w w5 := by (repeat' (first | (with_reducible exact Below.refl _ _) | (with_reducible assumption) | (with_reducible exact Bw.out (by with_reducible assumption)) | (with_reducible refine bw_alloc ?_ _) | (with_reducible refine bw_step ?_ (by with_reducible assumption)) | (with_reducible refine Below.alloc ?_ ?_ _) | (with_reducible refine Below.drew ?_) | (with_reducible refine below_drewN ?_ _) | (with_reducible refine Below.setCell ?_ ?_ _) | (with_reducible refine below_step ?_ (by with_reducible assumption) ?_) | (with_reducible exact Nat.le_refl _) | omega | (simp; omega) | (simp; done)))
        clear R_s_4 c_s_0_4 c_s_1_4 c_s_2_4 c_s_3_4 R_x_4 c_x_0_4 c_x_1_4 c_x_2_4 c_x_3_4 hb4 HB4
        rw [HSE.out] at KS
        go_wp2_with fail
        refine (Count_c a n cap l ad N cp S none 0 0 [] _ (HS.out.below (by (repeat' (first | (with_reducible exact Below.refl _ _) | (with_reducible assumption) | (with_reducible exact Bw.out (by with_reducible assumption)) | (with_reducible refine bw_alloc ?_ _) | (with_reducible refine bw_step ?_ (by with_reducible assumption)) | (with_reducible refine Below.alloc ?_ ?_ _) | (with_reducible refine Below.drew ?_) | (with_reducible refine below_drewN ?_ _) | (with_reducible refine Below.setCell ?_ ?_ _) | (with_reducible refine below_step ?_ (by with_reducible assumption) ?_) | (with_reducible exact Nat.le_refl _) | omega | (simp; omega) | (simp; done))))) KS (SlI.nil _ _) HWF.out HCB.out).mono ?_
        rintro e w6 ⟨gm, rfl, KM, hb6⟩
        have R_s_6 : Row w6 (w.heap.size) [.int .i64 nt, .int .i64 wd, .slice ac nc cc, .slice as' ns cs] := by (repeat' (first | (with_reducible assumption) | (with_reducible refine Row.new' _ _ _ (by first | rfl | (simp; done) | omega)) | (with_reducible refine Row.alloc ?_ _) | (with_reducible refine Row.drew ?_) | (with_reducible refine Row.drewN ?_ _) | (with_reducible refine Row.step ?_ (by with_reducible assumption)) | (with_reducible refine Row.set2' ?_ _ _; first | exact ⟨_, _, by with_reducible assumption⟩ | exact ⟨_, _, Row.alloc (by with_reducible assumption) _⟩ | exact ⟨_, _, Row.alloc (Row.alloc (by with_reducible assumption) _) _⟩) | (with_reducible refine Row.other ?_ (by first | omega | (simp; done) | (simp; omega)) _)))
        have c_s_0_6 := R_s_6.cell 0 rfl
        have c_s_1_6 := R_s_6.cell 1 rfl
        have c_s_2_6 := R_s_6.cell 2 rfl
        have c_s_3_6 := R_s_6.cell 3 rfl
        have l_s_6 := R_s_6.lt
        have R_x_6 : Row w6 (w3.heap.size) [.int .i64 (i : Int), .int .i64 W, .slice a1 m d1, .slice a2 m d2] := by (repeat' (first | (with_reducible assumption) | (with_reducible refine Row.new' _ _ _ (by first | rfl | (simp; done) | omega)) | (with_reducible refine Row.alloc ?_ _) | (with_reducible refine Row.drew ?_) | (with_reducible refine Row.drewN ?_ _) | (with_reducible refine Row.step ?_ (by with_reducible assumption)) | (with_reducible refine Row.set2' ?_ _ _; first | exact ⟨_, _, by with_reducible assumption⟩ | exact ⟨_, _, Row.alloc (by with_reducible assumption) _⟩ | exact ⟨_, _, Row.alloc (Row.alloc (by with_reducible assumption) _) _⟩) | (with_reducible refine Row.other ?_ (by first | omega | (simp; done) | (simp; omega)) _)))
        have c_x_0_6 := R_x_6.cell 0 rfl
        have c_x_1_6 := R_x_6.cell 1 rfl
        have c_x_2_6 := R_x_6.cell 2 rfl
        have c_x_3_6 := R_x_6.cell 3 rfl
        have l_x_6 := R_x_6.lt
        replace KC := KC.step (show Below w5.heap.size w5 w6 by (repeat' (first | (with_reducible exact Below.refl _ _) | (with_reducible assumption) | (with_reducible exact Bw.out (by with_reducible assumption)) | (with_reducible refine bw_alloc ?_ _) | (with_reducible refine bw_step ?_ (by with_reducible assumption)) | (with_reducible refine Below.alloc ?_ ?_ _) | (with_reducible refine Below.drew ?_) | (with_reducible refine below_drewN ?_ _) | (with_reducible refine Below.setCell ?_ ?_ _) | (with_reducible refine below_step ?_ (by with_reducible assumption) ?_) | (with_reducible exact Nat.le_refl _) | omega | (simp; omega) | (simp; done))))
        replace KD := KD.step (show Below w5.heap.size w5 w6 by (repeat' (first | (with_reducible exact Below.refl _ _) | (with_reducible assumption) | (with_reducible exact Bw.out (by with_reducible assumption)) | (with_reducible refine bw_alloc ?_ _) | (with_reducible refine bw_step ?_ (by with_reducible assumption)) | (with_reducible refine Below.alloc ?_ ?_ _) | (with_reducible refine Below.drew ?_) | (with_reducible refine below_drewN ?_ _) | (with_reducible refine Below.setCell ?_ ?_ _) | (with_reducible refine below_step ?_ (by with_reducible assumption) ?_) | (with_reducible exact Nat.le_refl _) | omega | (simp; omega) | (simp; done))))
        have HB6 : Below w.heap.size w w6 := by (repeat' (first | (with_reducible exact Below.refl _ _) | (with_reducible assumption) | (with_reducible exact Bw.out (by with_reducible assumption)) | (with_reducible refine bw_alloc ?_ _) | (with_reducible refine bw_step ?_ (by with_reducible assumption)) | (with_reducible refine Below.alloc ?_ ?_ _) | (with_reducible refine Below.drew ?_) | (with_reducible refine below_drewN ?_ _) | (with_reducible refine Below.setCell ?_ ?_ _) | (with_reducible refine below_step ?_ (by with_reducible assumption) ?_) | (with_reducible exact Nat.le_refl _) | omega | (simp; omega) | (simp; done)))
        clear R_s_5 c_s_0_5 c_s_1_5 c_s_2_5 c_s_3_5 R_x_5 c_x_0_5 c_x_1_5 c_x_2_5 c_x_3_5 hb5 HB5
        have i1 : (0 : Int) ≤ (i : Int) := by omega
        have i2 : (i : Int) < (n : Int) := by omega
        have i3 : ¬ (n : Int) ≤ (i : Int) := by omega
        go_wp2_with fail
        refine (Valid_any a n cap l (i : Int) W a1 m d1 C a2 m d2 D _ hn (by omega) (by omega) (HS.out.below (by (repeat' (first | (with_reducible exact Below.refl _ _) | (with_reducible assumption) | (with_reducible exact Bw.out (by with_reducible assumption)) | (with_reducible refine bw_alloc ?_ _) | (with_reducible refine bw_step ?_ (by with_reducible assumption)) | (with_reducible refine Below.alloc ?_ ?_ _) | (with_reducible refine Below.drew ?_) | (with_reducible refine below_drewN ?_ _) | (with_reducible refine Below.setCell ?_ ?_ _) | (with_reducible refine below_step ?_ (by with_reducible assumption) ?_) | (with_reducible exact Nat.le_refl _) | omega | (simp; omega) | (simp; done))))) KC.sl KD.sl true HO.out).mono ?_
        rintro e w7 ⟨rfl, hb7⟩
        have R_s_7 : Row w7 (w.heap.size) [.int .i64 nt, .int .i64 wd, .slice ac nc cc, .slice as' ns cs] := by (repeat' (first | (with_reducible assumption) | (with_reducible refine Row.new' _ _ _ (by first | rfl | (simp; done) | omega)) | (with_reducible refine Row.alloc ?_ _) | (with_reducible refine Row.drew ?_) | (with_reducible refine Row.drewN ?_ _) | (with_reducible refine Row.step ?_ (by with_reducible assumption)) | (with_reducible refine Row.set2' ?_ _ _; first | exact ⟨_, _, by with_reducible assumption⟩ | exact ⟨_, _, Row.alloc (by with_reducible assumption) _⟩ | exact ⟨_, _, Row.alloc (Row.alloc (by with_reducible assumption) _) _⟩) | (with_reducible refine Row.other ?_ (by first | omega | (simp; done) | (simp; omega)) _)))
        have c_s_0_7 := R_s_7.cell 0 rfl
        have c_s_1_7 := R_s_7.cell 1 rfl
        have c_s_2_7 := R_s_7.cell 2 rfl
        have c_s_3_7 := R_s_7.cell 3 rfl
        have l_s_7 := R_s_7.lt
        have R_x_7 : Row w7 (w3.heap.size) [.int .i64 (i : Int), .int .i64 W, .slice a1 m d1, .slice a2 m d2] := by (repeat' (first | (with_reducible assumption) | (with_reducible refine Row.new' _ _ _ (by first | rfl | (simp; done) | omega)) | (with_reducible refine Row.alloc ?_ _) | (with_reducible refine Row.drew ?_) | (with_reducible refine Row.drewN ?_ _) | (with_reducible refine Row.step ?_ (by with_reducible assumption)) | (with_reducible refine Row.set2' ?_ _ _; first | exact ⟨_, _, by with_reducible assumption⟩ | exact ⟨_, _, Row.alloc (by with_reducible assumption) _⟩ | exact ⟨_, _, Row.alloc (Row.alloc (by with_reducible assumption) _) _⟩) | (with_reducible refine Row.other ?_ (by first | omega | (simp; done) | (simp; omega)) _)))
        have c_x_0_7 := R_x_7.cell 0 rfl
        have c_x_1_7 := R_x_7.cell 1 rfl
        have c_x_2_7 := R_x_7.cell 2 rfl
        have c_x_3_7 := R_x_7.cell 3 rfl
        have l_x_7 := R_x_7.lt
        replace KC := KC.step (show Below w6.heap.size w6 w7 by (repeat' (first | (with_reducible exact Below.refl _ _) | (with_reducible assumption) | (with_reducible exact Bw.out (by with_reducible assumption)) | (with_reducible refine bw_alloc ?_ _) | (with_reducible refine bw_step ?_ (by with_reducible assumption)) | (with_reducible refine Below.alloc ?_ ?_ _) | (with_reducible refine Below.drew ?_) | (with_reducible refine below_drewN ?_ _) | (with_reducible refine Below.setCell ?_ ?_ _) | (with_reducible refine below_step ?_ (by with_reducible assumption) ?_) | (with_reducible exact Nat.le_refl _) | omega | (simp; omega) | (simp; done))))
        replace KD := KD.step (show Below w6.heap.size w6 w7 by (repeat' (first | (with_reducible exact Below.refl _ _) | (with_reducible assumption) | (with_reducible exact Bw.out (by with_reducible assumption)) | (with_reducible refine bw_alloc ?_ _) | (with_reducible refine bw_step ?_ (by with_reducible assumption)) | (with_reducible refine Below.alloc ?_ ?_ _) | (with_reducible refine Below.drew ?_) | (with_reducible refine below_drewN ?_ _) | (with_reducible refine Below.setCell ?_ ?_ _) | (with_reducible refine below_step ?_ (by with_reducible assumption) ?_) | (with_reducible exact Nat.le_refl _) | omega | (simp; omega) | (simp; done))))
        have HB7 : Below w.heap.size w w7 := by (repeat' (first | (with_reducible exact Below.refl _ _) | (with_reducible assumption) | (with_reducible exact Bw.out (by with_reducible assumption)) | (with_reducible refine bw_alloc ?_ _) | (with_reducible refine bw_step ?_ (by with_reducible assumption)) | (with_reducible refine Below.alloc ?_ ?_ _) | (with_reducible refine Below.drew ?_) | (with_reducible refine below_drewN ?_ _) | (with_reducible refine Below.setCell ?_ ?_ _) | (with_reducible refine below_step ?_ (by with_reducible assumption) ?_) | (with_reducible exact Nat.le_refl _) | omega | (simp; omega) | (simp; done)))
        clear R_s_6 c_s_0_6 c_s_1_6 c_s_2_6 c_s_3_6 R_x_6 c_x_0_6 c_x_1_6 c_x_2_6 c_x_3_6 hb6 HB6
        obtain ⟨bm, om, z, e1, _, cm, g1, _, _⟩ := (KM.below hb7).get hin
        cases e1
        rw [Nat.zero_add] at cm
        have hz : z = W := g1.out.symm.trans HCNT.out
        subst hz
        clear g1
        go_wp2_with fail
        go_ret
        refine ⟨(by first | rfl | exact ret_bool (by first | rfl | (simp; done) | (simp; omega))), ?_⟩
        (repeat' (first | (with_reducible exact Below.refl _ _) | (with_reducible assumption) | (with_reducible exact Bw.out (by with_reducible assumption)) | (with_reducible refine bw_alloc ?_ _) | (with_reducible refine bw_step ?_ (by with_reducible assumption)) | (with_reducible refine Below.alloc ?_ ?_ _) | (with_reducible refine Below.drew ?_) | (with_reducible refine below_drewN ?_ _) | (with_reducible refine Below.setCell ?_ ?_ _) | (with_reducible refine below_step ?_ (by with_reducible assumption) ?_) | (with_reducible exact Nat.le_refl _) | omega | (simp; omega) | (simp; done)))


set_option maxRecDepth 100000 in
theorem scenePromise_lifted (os : Os) (started : os.Started) (H : Type) (enc : TypeId × Value → H) :
    ReturnsInHanded {} Try.checked os 8 .any (Rows.scenePromiseSpec.pre6 enc Try.prog Try.f8 Rows.scenePromiseRow.domain false) (Rows.scenePromiseSpec.post enc Try.prog Try.f8 false true false false) := by
  refine returnsInHanded_of_change (C := Try.checked) own started (by kernel_rfl) Try.func8
    (ChangeSpec.witness6 (enc := enc) (C := Try.checked) false ⟨#[], #[.slice none 0 0, .agg #[.int .i64 0, .int .i64 0, .slice none 0 0, .slice none 0 0], .int .u8 0, .int .u8 0], []⟩ 8 (by kernel_rfl) (by kernel_rfl) (by kernel_rfl) (by kernel_rfl)) ?_
  intro W base args ds gs before hval0 hW _ _
  have hval : ∀ (j : Nat) t v, Try.f8.params[j]? = some t → args[j]? = some v → Value.okWide Try.prog W .any base t v := hval0
  have hW' := hW
  obtain ⟨p, q, hA0, hV, rfl, hfz, hnd⟩ := hW
  obtain ⟨rfl, rfl⟩ := trodVars_none hV
  have hA : DataW.TrodAll enc Try.prog W 0 (fun _ => true) true Try.f8.params.toList args.toList ds p := hA0
  rw [Try.params8] at hA hval
  obtain ⟨v0, vs0, d0, ds0, p0, q0, hargs, rfl, rfl, h0, r0⟩ := trodAll_cons hA
  obtain ⟨v1, vs1, d1, ds1, p1, q1, rfl, rfl, rfl, h1, r1⟩ := trodAll_cons r0
  obtain ⟨v2, vs2, d2, ds2, p2, q2, rfl, rfl, rfl, h2, r2⟩ := trodAll_cons r1
  obtain ⟨v3, vs3, d3, ds3, p3, q3, rfl, rfl, rfl, h3, r3⟩ := trodAll_cons r2
  obtain ⟨rfl, rfl, rfl⟩ := trodAll_nil r3
  obtain rfl : args = #[v0, v1, v2, v3] := by cases args; simp_all
  obtain ⟨a0_l, n0_l, c0_l, rfl⟩ := okWide_slice Try.underlying22 (hval 0 22 v0 rfl rfl)
  obtain ⟨fu_l, hf_l⟩ := h0
  obtain ⟨a_l, n_l, c_l, l_l, e_l, g1_l, g2_l, hs_l, wf_l⟩ := sln_of_nights (by simpa [Value.cells] using hf_l)
  cases e_l
  obtain ⟨nt_s, wd_s, ac_s, nc_s, cc_s, zs_s, as_s, ns_s, cs_s, ys_s, rfl, hs_s, wf_s⟩ := scene_of (hval 1 25 v1 rfl rfl) h1
  obtain ⟨y, rfl, rfl, rfl, wy⟩ := open_int Try.underlying5 (hval 2 5 v2 rfl rfl) h2
  obtain ⟨q, rfl, rfl, rfl, wq⟩ := open_int Try.underlying5 (hval 3 5 v3 rfl rfl) h3
  clear hA0 hval0
  refine (scprom_walk _ _ _ l_l nt_s wd_s _ _ _ zs_s _ _ _ ys_s y q wf_l wf_s wy wq W ⟨hs_l, g1_l, g2_l⟩ hs_s).mono fun e W' ⟨he, hb⟩ => ?_
  subst he
  exact ⟨_, rfl, law_post (B := 4) laidOut (by rw [Try.params8]; simp only [List.mem_cons, List.not_mem_nil, or_false, forall_eq_or_imp, forall_eq]; first | exact readable_scenePromise | (repeat' apply And.intro) <;> first | exact of_decide_eq_true (by kernel_rfl) | kernel_rfl) rfl Try.underlying4 rfl rfl hW' hb⟩

theorem scenePromise_over : Rows.scenePromiseRow.holds Try.pinned (OpenSpec.ofChange Rows.scenePromiseSpec) :=
  OpenClaim.holds_of_wide 8 Try.f8 rfl rfl rfl rfl rfl rfl rfl ⟨rfl, rfl, rfl, rfl, rfl⟩ rfl rfl rfl rfl rfl (by kernel_rfl) Try.func8 (by kernel_rfl)
    (of_decide_eq_true (by kernel_rfl)) (by unfold Func.isWrapper; first | (rw [if_pos (by decide +kernel)]; kernel_rfl) | (rw [if_neg (by decide +kernel)]; exact ⟨rfl, rfl⟩))
    (fun os started H enc _ => scenePromise_lifted os started H enc)

theorem scenePromise_holds : Rows.ScenePromiseSaid := scenePromise_over
#print axioms scenePromise_holds

end Go.Proofs.Ytdijdfhlmnhcjaa
