/-
  WorstMatchesReference: for all nights and numbers, well-formed or not, all functions return what the reference implementation returns.
  No condition: for every input.
-/
import Derived.Test.YtmjckadaiikapaaWRefD
import Derived.Test.YtmjckadaiikapaaOpenN
import Derived.Deep.DeepCutAuto
namespace Go.Proofs.Ytmjckadaiikapaa
set_option linter.unusedSimpArgs false
set_option linter.unusedVariables false
open Go.ChangeShapes Go.WideShapes Go.ChangeAt Go.RowKit

theorem R_Promise_c (a : Option Addr) (n cap : Nat) (l : List NightV) (c : Nat) (most : Int) (i : Nat) (r s : Int) (zs : List Int) (nn cc : Nat) (w : World) (hs : SlN w a n l) (hcaps : ∀ x ∈ l, x.n ≤ x.cap ∧ x.cap ≤ maxLen) (hB : (nightsB l && inB (c : Int) 30 && inB most 1000) = true)
    (ad : Option Addr) (hx : l[i]? = some ⟨r, s, ad, nn, cc, zs⟩) (hpre : ∀ j y, j < i → l[j]? = some y → brk c most y = false) (hbr : brk c most ⟨r, s, ad, nn, cc, zs⟩ = true) (W : Int) (C S : List Int) (m : Nat) (hW : scW r s most = W) (hC : sellC zs (scL r s most) (topL zs c) = C) (hS : sellS zs (scL r s most) (topL zs c) = S) (hm : C.length = m) (c' : Int) (hc' : c' = c) :
    Calls Try.prog 15 #[.slice a n cap, .int .i64 c', .int .i64 most] w
      fun e w' => ∃ a1 d1 a2 d2, e = .returned (.tuple #[.agg #[.int .i64 i, .int .i64 W, .slice a1 m d1, .slice a2 m d2], .bool true, .int .i64 0]) ∧ SlC w' a1 m d1 C ∧ SlC w' a2 m d2 S ∧ Below w.heap.size w w' := by
  subst hc'
  refine (R_Promise_some a n cap l c most i r s zs nn cc w hs hcaps hB ad hx hpre hbr).mono ?_
  rintro e w' ⟨v1, v2, rfl, h1, h2, hb⟩
  rw [hC] at h1
  rw [hS] at h2
  obtain ⟨a1, d1, rfl, k1⟩ := h1.sized m hm
  obtain ⟨a2, d2, rfl, k2⟩ := h2.sized m (by rw [← hS, ← sell_len, hC]; exact hm)
  exact ⟨a1, d1, a2, d2, by rw [hW], k1, k2, hb⟩

set_option maxRecDepth 100000 in
set_option maxHeartbeats 12800000 in
theorem wmat_walk (a : Option Addr) (n cap : Nat) (l : List NightV) (c most away : Int) (hwf : ∀ x ∈ l, NightWf x) (_ : (Lit.int .i64 c).wf = true) (_ : (Lit.int .i64 most).wf = true) (_ : (Lit.int .i64 away).wf = true) (w : World) (hv : SlN w a n l ∧ n ≤ cap ∧ cap ≤ maxLen) :
    Calls Try.prog 3 #[.slice a n cap, .int .i64 c, .int .i64 most, .int .i64 away] w fun e w' => e = .returned (.bool true) ∧ Below w.heap.size w w' := by
  obtain ⟨hs, hcap1, hcap2⟩ := hv
  unfold maxLen at hcap2
  have HS := Lib.hid hs
  have HL := Lib.hid hs.1
  have HC := Lib.hid (wf_caps hwf)
  clear hs hwf
  cases hf : fewN l with
  | false =>
    have HF := Lib.hid hf
    clear hf
    go_enter Try.func3, Try.ntmps3
    go_wp2_with fail
    refine (w_head_any _).mono ?_
    rintro e w1 ⟨rfl, hb1⟩
    have HB1 : Below w.heap.size w w1 := by (repeat' (first | (with_reducible exact Below.refl _ _) | (with_reducible assumption) | (with_reducible exact Bw.out (by with_reducible assumption)) | (with_reducible refine bw_alloc ?_ _) | (with_reducible refine bw_step ?_ (by with_reducible assumption)) | (with_reducible refine Below.alloc ?_ ?_ _) | (with_reducible refine Below.drew ?_) | (with_reducible refine below_drewN ?_ _) | (with_reducible refine Below.setCell ?_ ?_ _) | (with_reducible refine below_step ?_ (by with_reducible assumption) ?_) | (with_reducible exact Nat.le_refl _) | omega | (simp; omega) | (simp; done)))
    go_wp2_with fail
    refine (R_few_any _ _ _ l _ (by omega) (HS.out.below (by (repeat' (first | (with_reducible exact Below.refl _ _) | (with_reducible assumption) | (with_reducible exact Bw.out (by with_reducible assumption)) | (with_reducible refine bw_alloc ?_ _) | (with_reducible refine bw_step ?_ (by with_reducible assumption)) | (with_reducible refine Below.alloc ?_ ?_ _) | (with_reducible refine Below.drew ?_) | (with_reducible refine below_drewN ?_ _) | (with_reducible refine Below.setCell ?_ ?_ _) | (with_reducible refine below_step ?_ (by with_reducible assumption) ?_) | (with_reducible exact Nat.le_refl _) | omega | (simp; omega) | (simp; done))))) false HF.out).mono ?_
    rintro e w' ⟨rfl, rfl⟩
    go_wp2_with fail
    go_ret
    refine ⟨(by first | rfl | exact ret_bool (by first | rfl | (simp; done) | (simp; omega))), ?_⟩
    (repeat' (first | (with_reducible exact Below.refl _ _) | (with_reducible assumption) | (with_reducible exact Bw.out (by with_reducible assumption)) | (with_reducible refine bw_alloc ?_ _) | (with_reducible refine bw_step ?_ (by with_reducible assumption)) | (with_reducible refine Below.alloc ?_ ?_ _) | (with_reducible refine Below.drew ?_) | (with_reducible refine below_drewN ?_ _) | (with_reducible refine Below.setCell ?_ ?_ _) | (with_reducible refine below_step ?_ (by with_reducible assumption) ?_) | (with_reducible exact Nat.le_refl _) | omega | (simp; omega) | (simp; done)))
  | true =>
    have HF := Lib.hid hf
    have hn40 : n ≤ 40 := by rw [← HL.out]; exact fewN_len hf
    clear hf
    go_enter Try.func3, Try.ntmps3
    go_wp2_with fail
    refine (w_head_any _).mono ?_
    rintro e w1 ⟨rfl, hb1⟩
    have HB1 : Below w.heap.size w w1 := by (repeat' (first | (with_reducible exact Below.refl _ _) | (with_reducible assumption) | (with_reducible exact Bw.out (by with_reducible assumption)) | (with_reducible refine bw_alloc ?_ _) | (with_reducible refine bw_step ?_ (by with_reducible assumption)) | (with_reducible refine Below.alloc ?_ ?_ _) | (with_reducible refine Below.drew ?_) | (with_reducible refine below_drewN ?_ _) | (with_reducible refine Below.setCell ?_ ?_ _) | (with_reducible refine below_step ?_ (by with_reducible assumption) ?_) | (with_reducible exact Nat.le_refl _) | omega | (simp; omega) | (simp; done)))
    go_wp2_with fail
    refine (R_few_any _ _ _ l _ (by omega) (HS.out.below (by (repeat' (first | (with_reducible exact Below.refl _ _) | (with_reducible assumption) | (with_reducible exact Bw.out (by with_reducible assumption)) | (with_reducible refine bw_alloc ?_ _) | (with_reducible refine bw_step ?_ (by with_reducible assumption)) | (with_reducible refine Below.alloc ?_ ?_ _) | (with_reducible refine Below.drew ?_) | (with_reducible refine below_drewN ?_ _) | (with_reducible refine Below.setCell ?_ ?_ _) | (with_reducible refine below_step ?_ (by with_reducible assumption) ?_) | (with_reducible exact Nat.le_refl _) | omega | (simp; omega) | (simp; done))))) true HF.out).mono ?_
    rintro e w' ⟨rfl, rfl⟩
    have HB2' := Lib.hid HB1
    go_wp2_with fail
    go_loopw [9, 10] (fun up q wr => ∃ k : Nat, k ≤ n ∧ q = .int .i64 k ∧ up = .bool true ∧ Hid (Below w.heap.size w wr)) (fun _ q _ => n - (intOf q).toNat)
    case atStart => exact ⟨0, Nat.zero_le _, rfl, rfl, HB2'.out⟩
    case round =>
      obtain ⟨k, hk, rfl, rfl, hB⟩ := hrel
      by_cases hlt : k < n
      · obtain ⟨x, b, off, hx, rfl, hb, KX, hxn, e0, e1, e2⟩ := HS.out.night HC.out hlt
        have HKX := Lib.hid KX
        have E0 : CellAt w b (off + k * 3) (.int .i64 x.rooms) := e0
        have E1 : CellAt w b (off + k * 3 + 1) (.int .i64 x.sold) := e1
        have E2 : CellAt w b (off + k * 3 + 2) (.slice x.at' x.n x.cap) := e2
        obtain ⟨X, hX⟩ : ∃ X, ifI (waE x.rooms x.sold x.zs c) (wkI x.rooms x.sold x.zs c.toNat) 0 = X := ⟨_, rfl⟩
        obtain ⟨Y, hY⟩ : ∃ X, ifI (waE x.rooms x.sold x.zs c) 0 1 = X := ⟨_, rfl⟩
        obtain ⟨U, hU⟩ : ∃ X, ifI (emE x.rooms x.sold x.zs away) (emI x.rooms x.sold away) 0 = X := ⟨_, rfl⟩
        obtain ⟨V, hV⟩ : ∃ X, ifI (emE x.rooms x.sold x.zs away) 0 1 = X := ⟨_, rfl⟩
        have HX := Lib.hid hX
        have HY := Lib.hid hY
        have HU := Lib.hid hU
        have HV := Lib.hid hV
        have i1 : (0 : Int) ≤ (k : Int) := by omega
        have i2 : (k : Int) < (n : Int) := by omega
        have KX3 := Lib.hid (KX.step hB.out)
        have c0 := (E0.step hB.out).out
        have c1 := (E1.step hB.out).out
        have c2 := (E2.step hB.out).out
        clear hx KX e0 e1 e2 hX hY hU hV
        go_wp2_with fail
        refine (Walked_any x.rooms x.sold c _ _ _ x.zs _ KX3.out hxn X Y HX.out HY.out).mono ?_
        rintro e w4 ⟨rfl, hb4⟩
        have HB4 := Lib.hid (hB.out.trans (hb4.mono hB.out.size))
        have KX4 := Lib.hid (HKX.out.step HB4.out)
        have c0 := (E0.step HB4.out).out
        have c1 := (E1.step HB4.out).out
        have c2 := (E2.step HB4.out).out
        clear hb4
        go_wp2_with fail
        refine (R_Walked_any x.rooms x.sold c _ _ _ x.zs _ KX4.out hxn X Y HX.out HY.out).mono ?_
        rintro e w5 ⟨rfl, hb5⟩
        have HB5 := Lib.hid (HB4.out.trans (hb5.mono HB4.out.size))
        have KX5 := Lib.hid (HKX.out.step HB5.out)
        have c0 := (E0.step HB5.out).out
        have c1 := (E1.step HB5.out).out
        have c2 := (E2.step HB5.out).out
        clear hb5
        go_wp2_with fail
        refine (Empty_any x.rooms x.sold away _ _ _ x.zs _ KX5.out hxn U V HU.out HV.out).mono ?_
        rintro e w6 ⟨rfl, hb6⟩
        have HB6 := Lib.hid (HB5.out.trans (hb6.mono HB5.out.size))
        have KX6 := Lib.hid (HKX.out.step HB6.out)
        have c0 := (E0.step HB6.out).out
        have c1 := (E1.step HB6.out).out
        have c2 := (E2.step HB6.out).out
        clear hb6
        go_wp2_with fail
        refine (R_Empty_any x.rooms x.sold away _ _ _ x.zs _ KX6.out hxn U V HU.out HV.out).mono ?_
        rintro e w7 ⟨rfl, hb7⟩
        have HB7 := Lib.hid (HB6.out.trans (hb7.mono HB6.out.size))
        clear hb7
        go_wp2_with fail
        go_roundw
        case rel => exact ⟨k + 1, by omega, by go_num, rfl, HB7.out⟩
        case measure => simp [intOf]; omega
      · obtain rfl : n = k := by omega
        obtain ⟨w5, hw5⟩ : ∃ wd : World, wd = wr := ⟨_, rfl⟩
        subst hw5
        have HB5 := hB.out
        clear hB hlt
        cases hg : (nightsB l && inB c 30) with
        | false =>
          have HG := Lib.hid hg
          have HG2 : Hid ((nightsB l && inB c 30 && inB most 1000) = false) := by show _ = _; rw [hg]; rfl
          clear hg
          go_wp2_with fail
          refine (Nights_not _ _ _ l c _ (by omega) (HS.out.below (by (repeat' (first | (with_reducible exact Below.refl _ _) | (with_reducible assumption) | (with_reducible exact Bw.out (by with_reducible assumption)) | (with_reducible refine bw_alloc ?_ _) | (with_reducible refine bw_step ?_ (by with_reducible assumption)) | (with_reducible refine Below.alloc ?_ ?_ _) | (with_reducible refine Below.drew ?_) | (with_reducible refine below_drewN ?_ _) | (with_reducible refine Below.setCell ?_ ?_ _) | (with_reducible refine below_step ?_ (by with_reducible assumption) ?_) | (with_reducible exact Nat.le_refl _) | omega | (simp; omega) | (simp; done))))) HG.out).mono ?_
          rintro e w6 ⟨rfl, hb6⟩
          have HB6 : Below w.heap.size w w6 := by (repeat' (first | (with_reducible exact Below.refl _ _) | (with_reducible assumption) | (with_reducible exact Bw.out (by with_reducible assumption)) | (with_reducible refine bw_alloc ?_ _) | (with_reducible refine bw_step ?_ (by with_reducible assumption)) | (with_reducible refine Below.alloc ?_ ?_ _) | (with_reducible refine Below.drew ?_) | (with_reducible refine below_drewN ?_ _) | (with_reducible refine Below.setCell ?_ ?_ _) | (with_reducible refine below_step ?_ (by with_reducible assumption) ?_) | (with_reducible exact Nat.le_refl _) | omega | (simp; omega) | (simp; done)))
          go_wp2_with fail
          refine (R_Nights_not _ _ _ l c _ (by omega) (HS.out.below (by (repeat' (first | (with_reducible exact Below.refl _ _) | (with_reducible assumption) | (with_reducible exact Bw.out (by with_reducible assumption)) | (with_reducible refine bw_alloc ?_ _) | (with_reducible refine bw_step ?_ (by with_reducible assumption)) | (with_reducible refine Below.alloc ?_ ?_ _) | (with_reducible refine Below.drew ?_) | (with_reducible refine below_drewN ?_ _) | (with_reducible refine Below.setCell ?_ ?_ _) | (with_reducible refine below_step ?_ (by with_reducible assumption) ?_) | (with_reducible exact Nat.le_refl _) | omega | (simp; omega) | (simp; done))))) HG.out).mono ?_
          rintro e w7 ⟨rfl, hb7⟩
          have HB7 : Below w.heap.size w w7 := by (repeat' (first | (with_reducible exact Below.refl _ _) | (with_reducible assumption) | (with_reducible exact Bw.out (by with_reducible assumption)) | (with_reducible refine bw_alloc ?_ _) | (with_reducible refine bw_step ?_ (by with_reducible assumption)) | (with_reducible refine Below.alloc ?_ ?_ _) | (with_reducible refine Below.drew ?_) | (with_reducible refine below_drewN ?_ _) | (with_reducible refine Below.setCell ?_ ?_ _) | (with_reducible refine below_step ?_ (by with_reducible assumption) ?_) | (with_reducible exact Nat.le_refl _) | omega | (simp; omega) | (simp; done)))
          clear hb6 HB6
          go_wp2_with fail
          refine (R02_sameInts_c none none 0 0 0 0 [] [] true _ (SlC.nil _) (SlC.nil _) (by omega) (by omega) (by simp)).mono ?_
          rintro e w8 ⟨rfl, hb8⟩
          have HB8 : Below w.heap.size w w8 := by (repeat' (first | (with_reducible exact Below.refl _ _) | (with_reducible assumption) | (with_reducible exact Bw.out (by with_reducible assumption)) | (with_reducible refine bw_alloc ?_ _) | (with_reducible refine bw_step ?_ (by with_reducible assumption)) | (with_reducible refine Below.alloc ?_ ?_ _) | (with_reducible refine Below.drew ?_) | (with_reducible refine below_drewN ?_ _) | (with_reducible refine Below.setCell ?_ ?_ _) | (with_reducible refine below_step ?_ (by with_reducible assumption) ?_) | (with_reducible exact Nat.le_refl _) | omega | (simp; omega) | (simp; done)))
          clear hb7 HB7
          go_wp2_with fail
          refine (Promise_arg _ _ _ l c most _ (by omega) (HS.out.below (by (repeat' (first | (with_reducible exact Below.refl _ _) | (with_reducible assumption) | (with_reducible exact Bw.out (by with_reducible assumption)) | (with_reducible refine bw_alloc ?_ _) | (with_reducible refine bw_step ?_ (by with_reducible assumption)) | (with_reducible refine Below.alloc ?_ ?_ _) | (with_reducible refine Below.drew ?_) | (with_reducible refine below_drewN ?_ _) | (with_reducible refine Below.setCell ?_ ?_ _) | (with_reducible refine below_step ?_ (by with_reducible assumption) ?_) | (with_reducible exact Nat.le_refl _) | omega | (simp; omega) | (simp; done))))) HG2.out).mono ?_
          rintro e w9 ⟨rfl, hb9⟩
          have HB9 : Below w.heap.size w w9 := by (repeat' (first | (with_reducible exact Below.refl _ _) | (with_reducible assumption) | (with_reducible exact Bw.out (by with_reducible assumption)) | (with_reducible refine bw_alloc ?_ _) | (with_reducible refine bw_step ?_ (by with_reducible assumption)) | (with_reducible refine Below.alloc ?_ ?_ _) | (with_reducible refine Below.drew ?_) | (with_reducible refine below_drewN ?_ _) | (with_reducible refine Below.setCell ?_ ?_ _) | (with_reducible refine below_step ?_ (by with_reducible assumption) ?_) | (with_reducible exact Nat.le_refl _) | omega | (simp; omega) | (simp; done)))
          clear hb8 HB8
          go_wp2_with fail
          refine (R_Promise_arg _ _ _ l c most _ (by omega) (HS.out.below (by (repeat' (first | (with_reducible exact Below.refl _ _) | (with_reducible assumption) | (with_reducible exact Bw.out (by with_reducible assumption)) | (with_reducible refine bw_alloc ?_ _) | (with_reducible refine bw_step ?_ (by with_reducible assumption)) | (with_reducible refine Below.alloc ?_ ?_ _) | (with_reducible refine Below.drew ?_) | (with_reducible refine below_drewN ?_ _) | (with_reducible refine Below.setCell ?_ ?_ _) | (with_reducible refine below_step ?_ (by with_reducible assumption) ?_) | (with_reducible exact Nat.le_refl _) | omega | (simp; omega) | (simp; done))))) HG2.out).mono ?_
          rintro e w10 ⟨rfl, hb10⟩
          have R_s_10 : Row w10 (w9.heap.size) [.int .i64 (0), .int .i64 (0), .slice none 0 0, .slice none 0 0] := by (repeat' (first | (with_reducible assumption) | (with_reducible refine Row.new' _ _ _ (by first | rfl | (simp; done) | omega)) | (with_reducible refine Row.alloc ?_ _) | (with_reducible refine Row.drew ?_) | (with_reducible refine Row.drewN ?_ _) | (with_reducible refine Row.step ?_ (by with_reducible assumption)) | (with_reducible refine Row.set2' ?_ _ _; first | exact ⟨_, _, by with_reducible assumption⟩ | exact ⟨_, _, Row.alloc (by with_reducible assumption) _⟩ | exact ⟨_, _, Row.alloc (Row.alloc (by with_reducible assumption) _) _⟩) | (with_reducible refine Row.other ?_ (by first | omega | (simp; done) | (simp; omega)) _)))
          have c_s_0_10 := R_s_10.cell 0 rfl
          have c_s_1_10 := R_s_10.cell 1 rfl
          have c_s_2_10 := R_s_10.cell 2 rfl
          have c_s_3_10 := R_s_10.cell 3 rfl
          have l_s_10 := R_s_10.lt
          have HB10 : Below w.heap.size w w10 := by (repeat' (first | (with_reducible exact Below.refl _ _) | (with_reducible assumption) | (with_reducible exact Bw.out (by with_reducible assumption)) | (with_reducible refine bw_alloc ?_ _) | (with_reducible refine bw_step ?_ (by with_reducible assumption)) | (with_reducible refine Below.alloc ?_ ?_ _) | (with_reducible refine Below.drew ?_) | (with_reducible refine below_drewN ?_ _) | (with_reducible refine Below.setCell ?_ ?_ _) | (with_reducible refine below_step ?_ (by with_reducible assumption) ?_) | (with_reducible exact Nat.le_refl _) | omega | (simp; omega) | (simp; done)))
          clear hb9 HB9
          go_wp2_with fail
          refine (R_sameScene 0 0 0 0 none none none none 0 0 0 0 0 0 0 0 [] [] [] [] _ (SlC.nil _) (SlC.nil _) (SlC.nil _) (SlC.nil _) (by omega) (by omega) (by omega) (by omega) true (by simp [sameSc])).mono ?_
          rintro e w11 ⟨rfl, hb11⟩
          have R_s_11 : Row w11 (w9.heap.size) [.int .i64 (0), .int .i64 (0), .slice none 0 0, .slice none 0 0] := by (repeat' (first | (with_reducible assumption) | (with_reducible refine Row.new' _ _ _ (by first | rfl | (simp; done) | omega)) | (with_reducible refine Row.alloc ?_ _) | (with_reducible refine Row.drew ?_) | (with_reducible refine Row.drewN ?_ _) | (with_reducible refine Row.step ?_ (by with_reducible assumption)) | (with_reducible refine Row.set2' ?_ _ _; first | exact ⟨_, _, by with_reducible assumption⟩ | exact ⟨_, _, Row.alloc (by with_reducible assumption) _⟩ | exact ⟨_, _, Row.alloc (Row.alloc (by with_reducible assumption) _) _⟩) | (with_reducible refine Row.other ?_ (by first | omega | (simp; done) | (simp; omega)) _)))
          have c_s_0_11 := R_s_11.cell 0 rfl
          have c_s_1_11 := R_s_11.cell 1 rfl
          have c_s_2_11 := R_s_11.cell 2 rfl
          have c_s_3_11 := R_s_11.cell 3 rfl
          have l_s_11 := R_s_11.lt
          have R_t_11 : Row w11 (w10.heap.size) [.int .i64 (0), .int .i64 (0), .slice none 0 0, .slice none 0 0] := by (repeat' (first | (with_reducible assumption) | (with_reducible refine Row.new' _ _ _ (by first | rfl | (simp; done) | omega)) | (with_reducible refine Row.alloc ?_ _) | (with_reducible refine Row.drew ?_) | (with_reducible refine Row.drewN ?_ _) | (with_reducible refine Row.step ?_ (by with_reducible assumption)) | (with_reducible refine Row.set2' ?_ _ _; first | exact ⟨_, _, by with_reducible assumption⟩ | exact ⟨_, _, Row.alloc (by with_reducible assumption) _⟩ | exact ⟨_, _, Row.alloc (Row.alloc (by with_reducible assumption) _) _⟩) | (with_reducible refine Row.other ?_ (by first | omega | (simp; done) | (simp; omega)) _)))
          have c_t_0_11 := R_t_11.cell 0 rfl
          have c_t_1_11 := R_t_11.cell 1 rfl
          have c_t_2_11 := R_t_11.cell 2 rfl
          have c_t_3_11 := R_t_11.cell 3 rfl
          have l_t_11 := R_t_11.lt
          have HB11 : Below w.heap.size w w11 := by (repeat' (first | (with_reducible exact Below.refl _ _) | (with_reducible assumption) | (with_reducible exact Bw.out (by with_reducible assumption)) | (with_reducible refine bw_alloc ?_ _) | (with_reducible refine bw_step ?_ (by with_reducible assumption)) | (with_reducible refine Below.alloc ?_ ?_ _) | (with_reducible refine Below.drew ?_) | (with_reducible refine below_drewN ?_ _) | (with_reducible refine Below.setCell ?_ ?_ _) | (with_reducible refine below_step ?_ (by with_reducible assumption) ?_) | (with_reducible exact Nat.le_refl _) | omega | (simp; omega) | (simp; done)))
          clear R_s_10 c_s_0_10 c_s_1_10 c_s_2_10 c_s_3_10 hb10 HB10
          go_wp2_with fail
          go_ret
          refine ⟨(by first | rfl | exact ret_bool (by first | rfl | (simp; done) | (simp; omega))), ?_⟩
          (repeat' (first | (with_reducible exact Below.refl _ _) | (with_reducible assumption) | (with_reducible exact Bw.out (by with_reducible assumption)) | (with_reducible refine bw_alloc ?_ _) | (with_reducible refine bw_step ?_ (by with_reducible assumption)) | (with_reducible refine Below.alloc ?_ ?_ _) | (with_reducible refine Below.drew ?_) | (with_reducible refine below_drewN ?_ _) | (with_reducible refine Below.setCell ?_ ?_ _) | (with_reducible refine below_step ?_ (by with_reducible assumption) ?_) | (with_reducible exact Nat.le_refl _) | omega | (simp; omega) | (simp; done)))
        | true =>
          have hg2 := hg
          rw [Bool.and_eq_true] at hg2
          obtain ⟨hN, hI⟩ := hg2
          obtain ⟨q0, q1⟩ := inB_iff.1 hI
          obtain ⟨cN, rfl⟩ := Int.eq_ofNat_of_zero_le q0
          have hc30 : cN ≤ 30 := by omega
          have HN := Lib.hid hN
          have HG := Lib.hid hg
          clear hg hN hI
          go_wp2_with fail
          refine (Nights_any _ _ _ l cN _ (HS.out.below (by (repeat' (first | (with_reducible exact Below.refl _ _) | (with_reducible assumption) | (with_reducible exact Bw.out (by with_reducible assumption)) | (with_reducible refine bw_alloc ?_ _) | (with_reducible refine bw_step ?_ (by with_reducible assumption)) | (with_reducible refine Below.alloc ?_ ?_ _) | (with_reducible refine Below.drew ?_) | (with_reducible refine below_drewN ?_ _) | (with_reducible refine Below.setCell ?_ ?_ _) | (with_reducible refine below_step ?_ (by with_reducible assumption) ?_) | (with_reducible exact Nat.le_refl _) | omega | (simp; omega) | (simp; done))))) HC.out HN.out hc30).mono ?_
          rintro e w6 ⟨v1, rfl, V1, hb6⟩
          have HB6 : Below w.heap.size w w6 := by (repeat' (first | (with_reducible exact Below.refl _ _) | (with_reducible assumption) | (with_reducible exact Bw.out (by with_reducible assumption)) | (with_reducible refine bw_alloc ?_ _) | (with_reducible refine bw_step ?_ (by with_reducible assumption)) | (with_reducible refine Below.alloc ?_ ?_ _) | (with_reducible refine Below.drew ?_) | (with_reducible refine below_drewN ?_ _) | (with_reducible refine Below.setCell ?_ ?_ _) | (with_reducible refine below_step ?_ (by with_reducible assumption) ?_) | (with_reducible exact Nat.le_refl _) | omega | (simp; omega) | (simp; done)))
          obtain ⟨a1, d1, rfl, K1⟩ := V1.sized n (by rw [List.length_map]; exact HL.out)
          clear V1
          go_wp2_with fail
          refine (R_Nights_any _ _ _ l cN _ (HS.out.below (by (repeat' (first | (with_reducible exact Below.refl _ _) | (with_reducible assumption) | (with_reducible exact Bw.out (by with_reducible assumption)) | (with_reducible refine bw_alloc ?_ _) | (with_reducible refine bw_step ?_ (by with_reducible assumption)) | (with_reducible refine Below.alloc ?_ ?_ _) | (with_reducible refine Below.drew ?_) | (with_reducible refine below_drewN ?_ _) | (with_reducible refine Below.setCell ?_ ?_ _) | (with_reducible refine below_step ?_ (by with_reducible assumption) ?_) | (with_reducible exact Nat.le_refl _) | omega | (simp; omega) | (simp; done))))) HC.out HN.out hc30).mono ?_
          rintro e w7 ⟨v2, rfl, V2, hb7⟩
          replace K1 := K1.step (show Below w6.heap.size w6 w7 by (repeat' (first | (with_reducible exact Below.refl _ _) | (with_reducible assumption) | (with_reducible exact Bw.out (by with_reducible assumption)) | (with_reducible refine bw_alloc ?_ _) | (with_reducible refine bw_step ?_ (by with_reducible assumption)) | (with_reducible refine Below.alloc ?_ ?_ _) | (with_reducible refine Below.drew ?_) | (with_reducible refine below_drewN ?_ _) | (with_reducible refine Below.setCell ?_ ?_ _) | (with_reducible refine below_step ?_ (by with_reducible assumption) ?_) | (with_reducible exact Nat.le_refl _) | omega | (simp; omega) | (simp; done))))
          have HB7 : Below w.heap.size w w7 := by (repeat' (first | (with_reducible exact Below.refl _ _) | (with_reducible assumption) | (with_reducible exact Bw.out (by with_reducible assumption)) | (with_reducible refine bw_alloc ?_ _) | (with_reducible refine bw_step ?_ (by with_reducible assumption)) | (with_reducible refine Below.alloc ?_ ?_ _) | (with_reducible refine Below.drew ?_) | (with_reducible refine below_drewN ?_ _) | (with_reducible refine Below.setCell ?_ ?_ _) | (with_reducible refine below_step ?_ (by with_reducible assumption) ?_) | (with_reducible exact Nat.le_refl _) | omega | (simp; omega) | (simp; done)))
          clear hb6 HB6
          obtain ⟨a2, d2, rfl, K2⟩ := V2.sized n (by rw [List.length_map]; exact HL.out)
          clear V2
          go_wp2_with fail
          refine (R02_sameInts_c a1 a2 n n d1 d2 _ _ true _ (K1.step (by (repeat' (first | (with_reducible exact Below.refl _ _) | (with_reducible assumption) | (with_reducible exact Bw.out (by with_reducible assumption)) | (with_reducible refine bw_alloc ?_ _) | (with_reducible refine bw_step ?_ (by with_reducible assumption)) | (with_reducible refine Below.alloc ?_ ?_ _) | (with_reducible refine Below.drew ?_) | (with_reducible refine below_drewN ?_ _) | (with_reducible refine Below.setCell ?_ ?_ _) | (with_reducible refine below_step ?_ (by with_reducible assumption) ?_) | (with_reducible exact Nat.le_refl _) | omega | (simp; omega) | (simp; done))))) (K2.step (by (repeat' (first | (with_reducible exact Below.refl _ _) | (with_reducible assumption) | (with_reducible exact Bw.out (by with_reducible assumption)) | (with_reducible refine bw_alloc ?_ _) | (with_reducible refine bw_step ?_ (by with_reducible assumption)) | (with_reducible refine Below.alloc ?_ ?_ _) | (with_reducible refine Below.drew ?_) | (with_reducible refine below_drewN ?_ _) | (with_reducible refine Below.setCell ?_ ?_ _) | (with_reducible refine below_step ?_ (by with_reducible assumption) ?_) | (with_reducible exact Nat.le_refl _) | omega | (simp; omega) | (simp; done))))) (by omega) (by omega) (by simp)).mono ?_
          rintro e w8 ⟨rfl, hb8⟩
          replace K1 := K1.step (show Below w7.heap.size w7 w8 by (repeat' (first | (with_reducible exact Below.refl _ _) | (with_reducible assumption) | (with_reducible exact Bw.out (by with_reducible assumption)) | (with_reducible refine bw_alloc ?_ _) | (with_reducible refine bw_step ?_ (by with_reducible assumption)) | (with_reducible refine Below.alloc ?_ ?_ _) | (with_reducible refine Below.drew ?_) | (with_reducible refine below_drewN ?_ _) | (with_reducible refine Below.setCell ?_ ?_ _) | (with_reducible refine below_step ?_ (by with_reducible assumption) ?_) | (with_reducible exact Nat.le_refl _) | omega | (simp; omega) | (simp; done))))
          replace K2 := K2.step (show Below w7.heap.size w7 w8 by (repeat' (first | (with_reducible exact Below.refl _ _) | (with_reducible assumption) | (with_reducible exact Bw.out (by with_reducible assumption)) | (with_reducible refine bw_alloc ?_ _) | (with_reducible refine bw_step ?_ (by with_reducible assumption)) | (with_reducible refine Below.alloc ?_ ?_ _) | (with_reducible refine Below.drew ?_) | (with_reducible refine below_drewN ?_ _) | (with_reducible refine Below.setCell ?_ ?_ _) | (with_reducible refine below_step ?_ (by with_reducible assumption) ?_) | (with_reducible exact Nat.le_refl _) | omega | (simp; omega) | (simp; done))))
          have HB8 : Below w.heap.size w w8 := by (repeat' (first | (with_reducible exact Below.refl _ _) | (with_reducible assumption) | (with_reducible exact Bw.out (by with_reducible assumption)) | (with_reducible refine bw_alloc ?_ _) | (with_reducible refine bw_step ?_ (by with_reducible assumption)) | (with_reducible refine Below.alloc ?_ ?_ _) | (with_reducible refine Below.drew ?_) | (with_reducible refine below_drewN ?_ _) | (with_reducible refine Below.setCell ?_ ?_ _) | (with_reducible refine below_step ?_ (by with_reducible assumption) ?_) | (with_reducible exact Nat.le_refl _) | omega | (simp; omega) | (simp; done)))
          clear hb7 HB7
          clear K1 K2
          cases hm : inB most 1000 with
          | false =>
            have HG2 : Hid ((nightsB l && inB (cN : Int) 30 && inB most 1000) = false) := by show _ = _; rw [HG.out, hm]; rfl
            clear hm
            go_wp2_with fail
            refine (Promise_arg _ _ _ l cN most _ (by omega) (HS.out.below (by (repeat' (first | (with_reducible exact Below.refl _ _) | (with_reducible assumption) | (with_reducible exact Bw.out (by with_reducible assumption)) | (with_reducible refine bw_alloc ?_ _) | (with_reducible refine bw_step ?_ (by with_reducible assumption)) | (with_reducible refine Below.alloc ?_ ?_ _) | (with_reducible refine Below.drew ?_) | (with_reducible refine below_drewN ?_ _) | (with_reducible refine Below.setCell ?_ ?_ _) | (with_reducible refine below_step ?_ (by with_reducible assumption) ?_) | (with_reducible exact Nat.le_refl _) | omega | (simp; omega) | (simp; done))))) HG2.out).mono ?_
            rintro e w9 ⟨rfl, hb9⟩
            have HB9 : Below w.heap.size w w9 := by (repeat' (first | (with_reducible exact Below.refl _ _) | (with_reducible assumption) | (with_reducible exact Bw.out (by with_reducible assumption)) | (with_reducible refine bw_alloc ?_ _) | (with_reducible refine bw_step ?_ (by with_reducible assumption)) | (with_reducible refine Below.alloc ?_ ?_ _) | (with_reducible refine Below.drew ?_) | (with_reducible refine below_drewN ?_ _) | (with_reducible refine Below.setCell ?_ ?_ _) | (with_reducible refine below_step ?_ (by with_reducible assumption) ?_) | (with_reducible exact Nat.le_refl _) | omega | (simp; omega) | (simp; done)))
            clear hb8 HB8
            go_wp2_with fail
            refine (R_Promise_arg _ _ _ l cN most _ (by omega) (HS.out.below (by (repeat' (first | (with_reducible exact Below.refl _ _) | (with_reducible assumption) | (with_reducible exact Bw.out (by with_reducible assumption)) | (with_reducible refine bw_alloc ?_ _) | (with_reducible refine bw_step ?_ (by with_reducible assumption)) | (with_reducible refine Below.alloc ?_ ?_ _) | (with_reducible refine Below.drew ?_) | (with_reducible refine below_drewN ?_ _) | (with_reducible refine Below.setCell ?_ ?_ _) | (with_reducible refine below_step ?_ (by with_reducible assumption) ?_) | (with_reducible exact Nat.le_refl _) | omega | (simp; omega) | (simp; done))))) HG2.out).mono ?_
            rintro e w10 ⟨rfl, hb10⟩
            have R_s_10 : Row w10 (w9.heap.size) [.int .i64 (0), .int .i64 (0), .slice none 0 0, .slice none 0 0] := by (repeat' (first | (with_reducible assumption) | (with_reducible refine Row.new' _ _ _ (by first | rfl | (simp; done) | omega)) | (with_reducible refine Row.alloc ?_ _) | (with_reducible refine Row.drew ?_) | (with_reducible refine Row.drewN ?_ _) | (with_reducible refine Row.step ?_ (by with_reducible assumption)) | (with_reducible refine Row.set2' ?_ _ _; first | exact ⟨_, _, by with_reducible assumption⟩ | exact ⟨_, _, Row.alloc (by with_reducible assumption) _⟩ | exact ⟨_, _, Row.alloc (Row.alloc (by with_reducible assumption) _) _⟩) | (with_reducible refine Row.other ?_ (by first | omega | (simp; done) | (simp; omega)) _)))
            have c_s_0_10 := R_s_10.cell 0 rfl
            have c_s_1_10 := R_s_10.cell 1 rfl
            have c_s_2_10 := R_s_10.cell 2 rfl
            have c_s_3_10 := R_s_10.cell 3 rfl
            have l_s_10 := R_s_10.lt
            have HB10 : Below w.heap.size w w10 := by (repeat' (first | (with_reducible exact Below.refl _ _) | (with_reducible assumption) | (with_reducible exact Bw.out (by with_reducible assumption)) | (with_reducible refine bw_alloc ?_ _) | (with_reducible refine bw_step ?_ (by with_reducible assumption)) | (with_reducible refine Below.alloc ?_ ?_ _) | (with_reducible refine Below.drew ?_) | (with_reducible refine below_drewN ?_ _) | (with_reducible refine Below.setCell ?_ ?_ _) | (with_reducible refine below_step ?_ (by with_reducible assumption) ?_) | (with_reducible exact Nat.le_refl _) | omega | (simp; omega) | (simp; done)))
            clear hb9 HB9
            go_wp2_with fail
            refine (R_sameScene 0 0 0 0 none none none none 0 0 0 0 0 0 0 0 [] [] [] [] _ (SlC.nil _) (SlC.nil _) (SlC.nil _) (SlC.nil _) (by omega) (by omega) (by omega) (by omega) true (by simp [sameSc])).mono ?_
            rintro e w11 ⟨rfl, hb11⟩
            have R_s_11 : Row w11 (w9.heap.size) [.int .i64 (0), .int .i64 (0), .slice none 0 0, .slice none 0 0] := by (repeat' (first | (with_reducible assumption) | (with_reducible refine Row.new' _ _ _ (by first | rfl | (simp; done) | omega)) | (with_reducible refine Row.alloc ?_ _) | (with_reducible refine Row.drew ?_) | (with_reducible refine Row.drewN ?_ _) | (with_reducible refine Row.step ?_ (by with_reducible assumption)) | (with_reducible refine Row.set2' ?_ _ _; first | exact ⟨_, _, by with_reducible assumption⟩ | exact ⟨_, _, Row.alloc (by with_reducible assumption) _⟩ | exact ⟨_, _, Row.alloc (Row.alloc (by with_reducible assumption) _) _⟩) | (with_reducible refine Row.other ?_ (by first | omega | (simp; done) | (simp; omega)) _)))
            have c_s_0_11 := R_s_11.cell 0 rfl
            have c_s_1_11 := R_s_11.cell 1 rfl
            have c_s_2_11 := R_s_11.cell 2 rfl
            have c_s_3_11 := R_s_11.cell 3 rfl
            have l_s_11 := R_s_11.lt
            have R_t_11 : Row w11 (w10.heap.size) [.int .i64 (0), .int .i64 (0), .slice none 0 0, .slice none 0 0] := by (repeat' (first | (with_reducible assumption) | (with_reducible refine Row.new' _ _ _ (by first | rfl | (simp; done) | omega)) | (with_reducible refine Row.alloc ?_ _) | (with_reducible refine Row.drew ?_) | (with_reducible refine Row.drewN ?_ _) | (with_reducible refine Row.step ?_ (by with_reducible assumption)) | (with_reducible refine Row.set2' ?_ _ _; first | exact ⟨_, _, by with_reducible assumption⟩ | exact ⟨_, _, Row.alloc (by with_reducible assumption) _⟩ | exact ⟨_, _, Row.alloc (Row.alloc (by with_reducible assumption) _) _⟩) | (with_reducible refine Row.other ?_ (by first | omega | (simp; done) | (simp; omega)) _)))
            have c_t_0_11 := R_t_11.cell 0 rfl
            have c_t_1_11 := R_t_11.cell 1 rfl
            have c_t_2_11 := R_t_11.cell 2 rfl
            have c_t_3_11 := R_t_11.cell 3 rfl
            have l_t_11 := R_t_11.lt
            have HB11 : Below w.heap.size w w11 := by (repeat' (first | (with_reducible exact Below.refl _ _) | (with_reducible assumption) | (with_reducible exact Bw.out (by with_reducible assumption)) | (with_reducible refine bw_alloc ?_ _) | (with_reducible refine bw_step ?_ (by with_reducible assumption)) | (with_reducible refine Below.alloc ?_ ?_ _) | (with_reducible refine Below.drew ?_) | (with_reducible refine below_drewN ?_ _) | (with_reducible refine Below.setCell ?_ ?_ _) | (with_reducible refine below_step ?_ (by with_reducible assumption) ?_) | (with_reducible exact Nat.le_refl _) | omega | (simp; omega) | (simp; done)))
            clear R_s_10 c_s_0_10 c_s_1_10 c_s_2_10 c_s_3_10 hb10 HB10
            go_wp2_with fail
            go_ret
            refine ⟨(by first | rfl | exact ret_bool (by first | rfl | (simp; done) | (simp; omega))), ?_⟩
            (repeat' (first | (with_reducible exact Below.refl _ _) | (with_reducible assumption) | (with_reducible exact Bw.out (by with_reducible assumption)) | (with_reducible refine bw_alloc ?_ _) | (with_reducible refine bw_step ?_ (by with_reducible assumption)) | (with_reducible refine Below.alloc ?_ ?_ _) | (with_reducible refine Below.drew ?_) | (with_reducible refine below_drewN ?_ _) | (with_reducible refine Below.setCell ?_ ?_ _) | (with_reducible refine below_step ?_ (by with_reducible assumption) ?_) | (with_reducible exact Nat.le_refl _) | omega | (simp; omega) | (simp; done)))
          | true =>
            have HG2 : Hid ((nightsB l && inB (cN : Int) 30 && inB most 1000) = true) := by show _ = _; rw [HG.out, hm]; rfl
            clear hm
            rcases first_brk (brk cN most) l with hany | ⟨i, x, hidx, hx, hbr, hpre⟩
            · have HA := Lib.hid hany
              clear hany
              go_wp2_with fail
              refine (Promise_none _ _ _ l cN most _ (HS.out.below (by (repeat' (first | (with_reducible exact Below.refl _ _) | (with_reducible assumption) | (with_reducible exact Bw.out (by with_reducible assumption)) | (with_reducible refine bw_alloc ?_ _) | (with_reducible refine bw_step ?_ (by with_reducible assumption)) | (with_reducible refine Below.alloc ?_ ?_ _) | (with_reducible refine Below.drew ?_) | (with_reducible refine below_drewN ?_ _) | (with_reducible refine Below.setCell ?_ ?_ _) | (with_reducible refine below_step ?_ (by with_reducible assumption) ?_) | (with_reducible exact Nat.le_refl _) | omega | (simp; omega) | (simp; done))))) HC.out HG2.out HA.out).mono ?_
              rintro e w9 ⟨rfl, hb9⟩
              have HB9 : Below w.heap.size w w9 := by (repeat' (first | (with_reducible exact Below.refl _ _) | (with_reducible assumption) | (with_reducible exact Bw.out (by with_reducible assumption)) | (with_reducible refine bw_alloc ?_ _) | (with_reducible refine bw_step ?_ (by with_reducible assumption)) | (with_reducible refine Below.alloc ?_ ?_ _) | (with_reducible refine Below.drew ?_) | (with_reducible refine below_drewN ?_ _) | (with_reducible refine Below.setCell ?_ ?_ _) | (with_reducible refine below_step ?_ (by with_reducible assumption) ?_) | (with_reducible exact Nat.le_refl _) | omega | (simp; omega) | (simp; done)))
              clear hb8 HB8
              go_wp2_with fail
              refine (R_Promise_none _ _ _ l cN most _ (HS.out.below (by (repeat' (first | (with_reducible exact Below.refl _ _) | (with_reducible assumption) | (with_reducible exact Bw.out (by with_reducible assumption)) | (with_reducible refine bw_alloc ?_ _) | (with_reducible refine bw_step ?_ (by with_reducible assumption)) | (with_reducible refine Below.alloc ?_ ?_ _) | (with_reducible refine Below.drew ?_) | (with_reducible refine below_drewN ?_ _) | (with_reducible refine Below.setCell ?_ ?_ _) | (with_reducible refine below_step ?_ (by with_reducible assumption) ?_) | (with_reducible exact Nat.le_refl _) | omega | (simp; omega) | (simp; done))))) HC.out HG2.out HA.out).mono ?_
              rintro e w10 ⟨rfl, hb10⟩
              have R_s_10 : Row w10 (w9.heap.size) [.int .i64 (0), .int .i64 (0), .slice none 0 0, .slice none 0 0] := by (repeat' (first | (with_reducible assumption) | (with_reducible refine Row.new' _ _ _ (by first | rfl | (simp; done) | omega)) | (with_reducible refine Row.alloc ?_ _) | (with_reducible refine Row.drew ?_) | (with_reducible refine Row.drewN ?_ _) | (with_reducible refine Row.step ?_ (by with_reducible assumption)) | (with_reducible refine Row.set2' ?_ _ _; first | exact ⟨_, _, by with_reducible assumption⟩ | exact ⟨_, _, Row.alloc (by with_reducible assumption) _⟩ | exact ⟨_, _, Row.alloc (Row.alloc (by with_reducible assumption) _) _⟩) | (with_reducible refine Row.other ?_ (by first | omega | (simp; done) | (simp; omega)) _)))
              have c_s_0_10 := R_s_10.cell 0 rfl
              have c_s_1_10 := R_s_10.cell 1 rfl
              have c_s_2_10 := R_s_10.cell 2 rfl
              have c_s_3_10 := R_s_10.cell 3 rfl
              have l_s_10 := R_s_10.lt
              have HB10 : Below w.heap.size w w10 := by (repeat' (first | (with_reducible exact Below.refl _ _) | (with_reducible assumption) | (with_reducible exact Bw.out (by with_reducible assumption)) | (with_reducible refine bw_alloc ?_ _) | (with_reducible refine bw_step ?_ (by with_reducible assumption)) | (with_reducible refine Below.alloc ?_ ?_ _) | (with_reducible refine Below.drew ?_) | (with_reducible refine below_drewN ?_ _) | (with_reducible refine Below.setCell ?_ ?_ _) | (with_reducible refine below_step ?_ (by with_reducible assumption) ?_) | (with_reducible exact Nat.le_refl _) | omega | (simp; omega) | (simp; done)))
              clear hb9 HB9
              go_wp2_with fail
              refine (R_sameScene 0 0 0 0 none none none none 0 0 0 0 0 0 0 0 [] [] [] [] _ (SlC.nil _) (SlC.nil _) (SlC.nil _) (SlC.nil _) (by omega) (by omega) (by omega) (by omega) true (by simp [sameSc])).mono ?_
              rintro e w11 ⟨rfl, hb11⟩
              have R_s_11 : Row w11 (w9.heap.size) [.int .i64 (0), .int .i64 (0), .slice none 0 0, .slice none 0 0] := by (repeat' (first | (with_reducible assumption) | (with_reducible refine Row.new' _ _ _ (by first | rfl | (simp; done) | omega)) | (with_reducible refine Row.alloc ?_ _) | (with_reducible refine Row.drew ?_) | (with_reducible refine Row.drewN ?_ _) | (with_reducible refine Row.step ?_ (by with_reducible assumption)) | (with_reducible refine Row.set2' ?_ _ _; first | exact ⟨_, _, by with_reducible assumption⟩ | exact ⟨_, _, Row.alloc (by with_reducible assumption) _⟩ | exact ⟨_, _, Row.alloc (Row.alloc (by with_reducible assumption) _) _⟩) | (with_reducible refine Row.other ?_ (by first | omega | (simp; done) | (simp; omega)) _)))
              have c_s_0_11 := R_s_11.cell 0 rfl
              have c_s_1_11 := R_s_11.cell 1 rfl
              have c_s_2_11 := R_s_11.cell 2 rfl
              have c_s_3_11 := R_s_11.cell 3 rfl
              have l_s_11 := R_s_11.lt
              have R_t_11 : Row w11 (w10.heap.size) [.int .i64 (0), .int .i64 (0), .slice none 0 0, .slice none 0 0] := by (repeat' (first | (with_reducible assumption) | (with_reducible refine Row.new' _ _ _ (by first | rfl | (simp; done) | omega)) | (with_reducible refine Row.alloc ?_ _) | (with_reducible refine Row.drew ?_) | (with_reducible refine Row.drewN ?_ _) | (with_reducible refine Row.step ?_ (by with_reducible assumption)) | (with_reducible refine Row.set2' ?_ _ _; first | exact ⟨_, _, by with_reducible assumption⟩ | exact ⟨_, _, Row.alloc (by with_reducible assumption) _⟩ | exact ⟨_, _, Row.alloc (Row.alloc (by with_reducible assumption) _) _⟩) | (with_reducible refine Row.other ?_ (by first | omega | (simp; done) | (simp; omega)) _)))
              have c_t_0_11 := R_t_11.cell 0 rfl
              have c_t_1_11 := R_t_11.cell 1 rfl
              have c_t_2_11 := R_t_11.cell 2 rfl
              have c_t_3_11 := R_t_11.cell 3 rfl
              have l_t_11 := R_t_11.lt
              have HB11 : Below w.heap.size w w11 := by (repeat' (first | (with_reducible exact Below.refl _ _) | (with_reducible assumption) | (with_reducible exact Bw.out (by with_reducible assumption)) | (with_reducible refine bw_alloc ?_ _) | (with_reducible refine bw_step ?_ (by with_reducible assumption)) | (with_reducible refine Below.alloc ?_ ?_ _) | (with_reducible refine Below.drew ?_) | (with_reducible refine below_drewN ?_ _) | (with_reducible refine Below.setCell ?_ ?_ _) | (with_reducible refine below_step ?_ (by with_reducible assumption) ?_) | (with_reducible exact Nat.le_refl _) | omega | (simp; omega) | (simp; done)))
              clear R_s_10 c_s_0_10 c_s_1_10 c_s_2_10 c_s_3_10 hb10 HB10
              go_wp2_with fail
              go_ret
              refine ⟨(by first | rfl | exact ret_bool (by first | rfl | (simp; done) | (simp; omega))), ?_⟩
              (repeat' (first | (with_reducible exact Below.refl _ _) | (with_reducible assumption) | (with_reducible exact Bw.out (by with_reducible assumption)) | (with_reducible refine bw_alloc ?_ _) | (with_reducible refine bw_step ?_ (by with_reducible assumption)) | (with_reducible refine Below.alloc ?_ ?_ _) | (with_reducible refine Below.drew ?_) | (with_reducible refine below_drewN ?_ _) | (with_reducible refine Below.setCell ?_ ?_ _) | (with_reducible refine below_step ?_ (by with_reducible assumption) ?_) | (with_reducible exact Nat.le_refl _) | omega | (simp; omega) | (simp; done)))
            · obtain ⟨r, s, ad, nn, cc, zs⟩ := x
              obtain ⟨W, hW⟩ : ∃ W, scW r s most = W := ⟨_, rfl⟩
              obtain ⟨C, hC⟩ : ∃ C, sellC zs (scL r s most) (topL zs cN) = C := ⟨_, rfl⟩
              obtain ⟨S, hS⟩ : ∃ S, sellS zs (scL r s most) (topL zs cN) = S := ⟨_, rfl⟩
              obtain ⟨m, hm⟩ : ∃ m, C.length = m := ⟨_, rfl⟩
              have hm30 : m ≤ 30 := by
                have h1 := (sellC_prefix zs (topL zs cN) (scL r s most)).length_le
                rw [hC, hm, topL_length] at h1
                omega
              have HI := Lib.hid hidx
              have HXX := Lib.hid hx
              have HBR := Lib.hid hbr
              have HPR := Lib.hid hpre
              have HW := Lib.hid hW
              have HCC := Lib.hid hC
              have HSS := Lib.hid hS
              have HM := Lib.hid hm
              clear hidx hx hbr hpre hW hC hS hm
              go_wp2_with fail
              refine (Promise_c _ _ _ l cN most i r s zs nn cc _ (HS.out.below (by (repeat' (first | (with_reducible exact Below.refl _ _) | (with_reducible assumption) | (with_reducible exact Bw.out (by with_reducible assumption)) | (with_reducible refine bw_alloc ?_ _) | (with_reducible refine bw_step ?_ (by with_reducible assumption)) | (with_reducible refine Below.alloc ?_ ?_ _) | (with_reducible refine Below.drew ?_) | (with_reducible refine below_drewN ?_ _) | (with_reducible refine Below.setCell ?_ ?_ _) | (with_reducible refine below_step ?_ (by with_reducible assumption) ?_) | (with_reducible exact Nat.le_refl _) | omega | (simp; omega) | (simp; done))))) HC.out HG2.out ad HXX.out HI.out HBR.out W C S m HW.out HCC.out HSS.out HM.out cN rfl).mono ?_
              rintro e w9 ⟨b1, f1, b2, f2, rfl, K3, K4, hb9⟩
              have HB9 : Below w.heap.size w w9 := by (repeat' (first | (with_reducible exact Below.refl _ _) | (with_reducible assumption) | (with_reducible exact Bw.out (by with_reducible assumption)) | (with_reducible refine bw_alloc ?_ _) | (with_reducible refine bw_step ?_ (by with_reducible assumption)) | (with_reducible refine Below.alloc ?_ ?_ _) | (with_reducible refine Below.drew ?_) | (with_reducible refine below_drewN ?_ _) | (with_reducible refine Below.setCell ?_ ?_ _) | (with_reducible refine below_step ?_ (by with_reducible assumption) ?_) | (with_reducible exact Nat.le_refl _) | omega | (simp; omega) | (simp; done)))
              clear hb8 HB8
              go_wp2_with fail
              refine (R_Promise_c _ _ _ l cN most i r s zs nn cc _ (HS.out.below (by (repeat' (first | (with_reducible exact Below.refl _ _) | (with_reducible assumption) | (with_reducible exact Bw.out (by with_reducible assumption)) | (with_reducible refine bw_alloc ?_ _) | (with_reducible refine bw_step ?_ (by with_reducible assumption)) | (with_reducible refine Below.alloc ?_ ?_ _) | (with_reducible refine Below.drew ?_) | (with_reducible refine below_drewN ?_ _) | (with_reducible refine Below.setCell ?_ ?_ _) | (with_reducible refine below_step ?_ (by with_reducible assumption) ?_) | (with_reducible exact Nat.le_refl _) | omega | (simp; omega) | (simp; done))))) HC.out HG2.out ad HXX.out HPR.out HBR.out W C S m HW.out HCC.out HSS.out HM.out cN rfl).mono ?_
              rintro e w10 ⟨b3, f3, b4, f4, rfl, K5, K6, hb10⟩
              have R_s_10 : Row w10 (w9.heap.size) [.int .i64 i, .int .i64 W, .slice b1 m f1, .slice b2 m f2] := by (repeat' (first | (with_reducible assumption) | (with_reducible refine Row.new' _ _ _ (by first | rfl | (simp; done) | omega)) | (with_reducible refine Row.alloc ?_ _) | (with_reducible refine Row.drew ?_) | (with_reducible refine Row.drewN ?_ _) | (with_reducible refine Row.step ?_ (by with_reducible assumption)) | (with_reducible refine Row.set2' ?_ _ _; first | exact ⟨_, _, by with_reducible assumption⟩ | exact ⟨_, _, Row.alloc (by with_reducible assumption) _⟩ | exact ⟨_, _, Row.alloc (Row.alloc (by with_reducible assumption) _) _⟩) | (with_reducible refine Row.other ?_ (by first | omega | (simp; done) | (simp; omega)) _)))
              have c_s_0_10 := R_s_10.cell 0 rfl
              have c_s_1_10 := R_s_10.cell 1 rfl
              have c_s_2_10 := R_s_10.cell 2 rfl
              have c_s_3_10 := R_s_10.cell 3 rfl
              have l_s_10 := R_s_10.lt
              replace K3 := K3.step (show Below w9.heap.size w9 w10 by (repeat' (first | (with_reducible exact Below.refl _ _) | (with_reducible assumption) | (with_reducible exact Bw.out (by with_reducible assumption)) | (with_reducible refine bw_alloc ?_ _) | (with_reducible refine bw_step ?_ (by with_reducible assumption)) | (with_reducible refine Below.alloc ?_ ?_ _) | (with_reducible refine Below.drew ?_) | (with_reducible refine below_drewN ?_ _) | (with_reducible refine Below.setCell ?_ ?_ _) | (with_reducible refine below_step ?_ (by with_reducible assumption) ?_) | (with_reducible exact Nat.le_refl _) | omega | (simp; omega) | (simp; done))))
              replace K4 := K4.step (show Below w9.heap.size w9 w10 by (repeat' (first | (with_reducible exact Below.refl _ _) | (with_reducible assumption) | (with_reducible exact Bw.out (by with_reducible assumption)) | (with_reducible refine bw_alloc ?_ _) | (with_reducible refine bw_step ?_ (by with_reducible assumption)) | (with_reducible refine Below.alloc ?_ ?_ _) | (with_reducible refine Below.drew ?_) | (with_reducible refine below_drewN ?_ _) | (with_reducible refine Below.setCell ?_ ?_ _) | (with_reducible refine below_step ?_ (by with_reducible assumption) ?_) | (with_reducible exact Nat.le_refl _) | omega | (simp; omega) | (simp; done))))
              have HB10 : Below w.heap.size w w10 := by (repeat' (first | (with_reducible exact Below.refl _ _) | (with_reducible assumption) | (with_reducible exact Bw.out (by with_reducible assumption)) | (with_reducible refine bw_alloc ?_ _) | (with_reducible refine bw_step ?_ (by with_reducible assumption)) | (with_reducible refine Below.alloc ?_ ?_ _) | (with_reducible refine Below.drew ?_) | (with_reducible refine below_drewN ?_ _) | (with_reducible refine Below.setCell ?_ ?_ _) | (with_reducible refine below_step ?_ (by with_reducible assumption) ?_) | (with_reducible exact Nat.le_refl _) | omega | (simp; omega) | (simp; done)))
              clear hb9 HB9
              go_wp2_with fail
              refine (R_sameScene i W i W b1 b2 b3 b4 m m m m f1 f2 f3 f4 C S C S _ (K3.step (by (repeat' (first | (with_reducible exact Below.refl _ _) | (with_reducible assumption) | (with_reducible exact Bw.out (by with_reducible assumption)) | (with_reducible refine bw_alloc ?_ _) | (with_reducible refine bw_step ?_ (by with_reducible assumption)) | (with_reducible refine Below.alloc ?_ ?_ _) | (with_reducible refine Below.drew ?_) | (with_reducible refine below_drewN ?_ _) | (with_reducible refine Below.setCell ?_ ?_ _) | (with_reducible refine below_step ?_ (by with_reducible assumption) ?_) | (with_reducible exact Nat.le_refl _) | omega | (simp; omega) | (simp; done))))) (K4.step (by (repeat' (first | (with_reducible exact Below.refl _ _) | (with_reducible assumption) | (with_reducible exact Bw.out (by with_reducible assumption)) | (with_reducible refine bw_alloc ?_ _) | (with_reducible refine bw_step ?_ (by with_reducible assumption)) | (with_reducible refine Below.alloc ?_ ?_ _) | (with_reducible refine Below.drew ?_) | (with_reducible refine below_drewN ?_ _) | (with_reducible refine Below.setCell ?_ ?_ _) | (with_reducible refine below_step ?_ (by with_reducible assumption) ?_) | (with_reducible exact Nat.le_refl _) | omega | (simp; omega) | (simp; done))))) (K5.step (by (repeat' (first | (with_reducible exact Below.refl _ _) | (with_reducible assumption) | (with_reducible exact Bw.out (by with_reducible assumption)) | (with_reducible refine bw_alloc ?_ _) | (with_reducible refine bw_step ?_ (by with_reducible assumption)) | (with_reducible refine Below.alloc ?_ ?_ _) | (with_reducible refine Below.drew ?_) | (with_reducible refine below_drewN ?_ _) | (with_reducible refine Below.setCell ?_ ?_ _) | (with_reducible refine below_step ?_ (by with_reducible assumption) ?_) | (with_reducible exact Nat.le_refl _) | omega | (simp; omega) | (simp; done))))) (K6.step (by (repeat' (first | (with_reducible exact Below.refl _ _) | (with_reducible assumption) | (with_reducible exact Bw.out (by with_reducible assumption)) | (with_reducible refine bw_alloc ?_ _) | (with_reducible refine bw_step ?_ (by with_reducible assumption)) | (with_reducible refine Below.alloc ?_ ?_ _) | (with_reducible refine Below.drew ?_) | (with_reducible refine below_drewN ?_ _) | (with_reducible refine Below.setCell ?_ ?_ _) | (with_reducible refine below_step ?_ (by with_reducible assumption) ?_) | (with_reducible exact Nat.le_refl _) | omega | (simp; omega) | (simp; done))))) (by omega) (by omega) (by omega) (by omega) true (by simp [sameSc])).mono ?_
              rintro e w11 ⟨rfl, hb11⟩
              have R_s_11 : Row w11 (w9.heap.size) [.int .i64 i, .int .i64 W, .slice b1 m f1, .slice b2 m f2] := by (repeat' (first | (with_reducible assumption) | (with_reducible refine Row.new' _ _ _ (by first | rfl | (simp; done) | omega)) | (with_reducible refine Row.alloc ?_ _) | (with_reducible refine Row.drew ?_) | (with_reducible refine Row.drewN ?_ _) | (with_reducible refine Row.step ?_ (by with_reducible assumption)) | (with_reducible refine Row.set2' ?_ _ _; first | exact ⟨_, _, by with_reducible assumption⟩ | exact ⟨_, _, Row.alloc (by with_reducible assumption) _⟩ | exact ⟨_, _, Row.alloc (Row.alloc (by with_reducible assumption) _) _⟩) | (with_reducible refine Row.other ?_ (by first | omega | (simp; done) | (simp; omega)) _)))
              have c_s_0_11 := R_s_11.cell 0 rfl
              have c_s_1_11 := R_s_11.cell 1 rfl
              have c_s_2_11 := R_s_11.cell 2 rfl
              have c_s_3_11 := R_s_11.cell 3 rfl
              have l_s_11 := R_s_11.lt
              have R_t_11 : Row w11 (w10.heap.size) [.int .i64 i, .int .i64 W, .slice b3 m f3, .slice b4 m f4] := by (repeat' (first | (with_reducible assumption) | (with_reducible refine Row.new' _ _ _ (by first | rfl | (simp; done) | omega)) | (with_reducible refine Row.alloc ?_ _) | (with_reducible refine Row.drew ?_) | (with_reducible refine Row.drewN ?_ _) | (with_reducible refine Row.step ?_ (by with_reducible assumption)) | (with_reducible refine Row.set2' ?_ _ _; first | exact ⟨_, _, by with_reducible assumption⟩ | exact ⟨_, _, Row.alloc (by with_reducible assumption) _⟩ | exact ⟨_, _, Row.alloc (Row.alloc (by with_reducible assumption) _) _⟩) | (with_reducible refine Row.other ?_ (by first | omega | (simp; done) | (simp; omega)) _)))
              have c_t_0_11 := R_t_11.cell 0 rfl
              have c_t_1_11 := R_t_11.cell 1 rfl
              have c_t_2_11 := R_t_11.cell 2 rfl
              have c_t_3_11 := R_t_11.cell 3 rfl
              have l_t_11 := R_t_11.lt
              replace K3 := K3.step (show Below w10.heap.size w10 w11 by (repeat' (first | (with_reducible exact Below.refl _ _) | (with_reducible assumption) | (with_reducible exact Bw.out (by with_reducible assumption)) | (with_reducible refine bw_alloc ?_ _) | (with_reducible refine bw_step ?_ (by with_reducible assumption)) | (with_reducible refine Below.alloc ?_ ?_ _) | (with_reducible refine Below.drew ?_) | (with_reducible refine below_drewN ?_ _) | (with_reducible refine Below.setCell ?_ ?_ _) | (with_reducible refine below_step ?_ (by with_reducible assumption) ?_) | (with_reducible exact Nat.le_refl _) | omega | (simp; omega) | (simp; done))))
              replace K4 := K4.step (show Below w10.heap.size w10 w11 by (repeat' (first | (with_reducible exact Below.refl _ _) | (with_reducible assumption) | (with_reducible exact Bw.out (by with_reducible assumption)) | (with_reducible refine bw_alloc ?_ _) | (with_reducible refine bw_step ?_ (by with_reducible assumption)) | (with_reducible refine Below.alloc ?_ ?_ _) | (with_reducible refine Below.drew ?_) | (with_reducible refine below_drewN ?_ _) | (with_reducible refine Below.setCell ?_ ?_ _) | (with_reducible refine below_step ?_ (by with_reducible assumption) ?_) | (with_reducible exact Nat.le_refl _) | omega | (simp; omega) | (simp; done))))
              replace K5 := K5.step (show Below w10.heap.size w10 w11 by (repeat' (first | (with_reducible exact Below.refl _ _) | (with_reducible assumption) | (with_reducible exact Bw.out (by with_reducible assumption)) | (with_reducible refine bw_alloc ?_ _) | (with_reducible refine bw_step ?_ (by with_reducible assumption)) | (with_reducible refine Below.alloc ?_ ?_ _) | (with_reducible refine Below.drew ?_) | (with_reducible refine below_drewN ?_ _) | (with_reducible refine Below.setCell ?_ ?_ _) | (with_reducible refine below_step ?_ (by with_reducible assumption) ?_) | (with_reducible exact Nat.le_refl _) | omega | (simp; omega) | (simp; done))))
              replace K6 := K6.step (show Below w10.heap.size w10 w11 by (repeat' (first | (with_reducible exact Below.refl _ _) | (with_reducible assumption) | (with_reducible exact Bw.out (by with_reducible assumption)) | (with_reducible refine bw_alloc ?_ _) | (with_reducible refine bw_step ?_ (by with_reducible assumption)) | (with_reducible refine Below.alloc ?_ ?_ _) | (with_reducible refine Below.drew ?_) | (with_reducible refine below_drewN ?_ _) | (with_reducible refine Below.setCell ?_ ?_ _) | (with_reducible refine below_step ?_ (by with_reducible assumption) ?_) | (with_reducible exact Nat.le_refl _) | omega | (simp; omega) | (simp; done))))
              have HB11 : Below w.heap.size w w11 := by (repeat' (first | (with_reducible exact Below.refl _ _) | (with_reducible assumption) | (with_reducible exact Bw.out (by with_reducible assumption)) | (with_reducible refine bw_alloc ?_ _) | (with_reducible refine bw_step ?_ (by with_reducible assumption)) | (with_reducible refine Below.alloc ?_ ?_ _) | (with_reducible refine Below.drew ?_) | (with_reducible refine below_drewN ?_ _) | (with_reducible refine Below.setCell ?_ ?_ _) | (with_reducible refine below_step ?_ (by with_reducible assumption) ?_) | (with_reducible exact Nat.le_refl _) | omega | (simp; omega) | (simp; done)))
              clear R_s_10 c_s_0_10 c_s_1_10 c_s_2_10 c_s_3_10 hb10 HB10
              go_wp2_with fail
              go_ret
              refine ⟨(by first | rfl | exact ret_bool (by first | rfl | (simp; done) | (simp; omega))), ?_⟩
              (repeat' (first | (with_reducible exact Below.refl _ _) | (with_reducible assumption) | (with_reducible exact Bw.out (by with_reducible assumption)) | (with_reducible refine bw_alloc ?_ _) | (with_reducible refine bw_step ?_ (by with_reducible assumption)) | (with_reducible refine Below.alloc ?_ ?_ _) | (with_reducible refine Below.drew ?_) | (with_reducible refine below_drewN ?_ _) | (with_reducible refine Below.setCell ?_ ?_ _) | (with_reducible refine below_step ?_ (by with_reducible assumption) ?_) | (with_reducible exact Nat.le_refl _) | omega | (simp; omega) | (simp; done)))


set_option maxRecDepth 100000 in
theorem worstMatchesReference_lifted (os : Os) (started : os.Started) (H : Type) (enc : TypeId × Value → H) :
    ReturnsInHanded {} Try.checked os 3 .any (Rows.worstMatchesReferenceSpec.pre6 enc Try.prog Try.f3 Rows.worstMatchesReferenceRow.domain false) (Rows.worstMatchesReferenceSpec.post enc Try.prog Try.f3 false true false false) := by
  refine returnsInHanded_of_change (C := Try.checked) own started (by kernel_rfl) Try.func3
    (ChangeSpec.witness6 (enc := enc) (C := Try.checked) false ⟨#[], #[.slice none 0 0, .int .i64 0, .int .i64 0, .int .i64 0], []⟩ 8 (by kernel_rfl) (by kernel_rfl) (by kernel_rfl) (by kernel_rfl)) ?_
  intro W base args ds gs before hval0 hW _ _
  have hval : ∀ (j : Nat) t v, Try.f3.params[j]? = some t → args[j]? = some v → Value.okWide Try.prog W .any base t v := hval0
  have hW' := hW
  obtain ⟨p, q, hA0, hV, rfl, hfz, hnd⟩ := hW
  obtain ⟨rfl, rfl⟩ := trodVars_none hV
  have hA : DataW.TrodAll enc Try.prog W 0 (fun _ => true) true Try.f3.params.toList args.toList ds p := hA0
  rw [Try.params3] at hA hval
  obtain ⟨v0, vs0, d0, ds0, p0, q0, hargs, rfl, rfl, h0, r0⟩ := trodAll_cons hA
  obtain ⟨v1, vs1, d1, ds1, p1, q1, rfl, rfl, rfl, h1, r1⟩ := trodAll_cons r0
  obtain ⟨v2, vs2, d2, ds2, p2, q2, rfl, rfl, rfl, h2, r2⟩ := trodAll_cons r1
  obtain ⟨v3, vs3, d3, ds3, p3, q3, rfl, rfl, rfl, h3, r3⟩ := trodAll_cons r2
  obtain ⟨rfl, rfl, rfl⟩ := trodAll_nil r3
  obtain rfl : args = #[v0, v1, v2, v3] := by cases args; simp_all
  obtain ⟨a0_l, n0_l, c0_l, rfl⟩ := okWide_slice Try.underlying22 (hval 0 22 v0 rfl rfl)
  obtain ⟨fu_l, hf_l⟩ := h0
  obtain ⟨a_l, n_l, c_l, l_l, e_l, g1_l, g2_l, hs_l, wf_l⟩ := sln_of_nights (by simpa [Value.cells] using hf_l)
  cases e_l
  obtain ⟨c, rfl, rfl, rfl, wc⟩ := open_int Try.underlying3 (hval 1 3 v1 rfl rfl) h1
  obtain ⟨m, rfl, rfl, rfl, wm⟩ := open_int Try.underlying3 (hval 2 3 v2 rfl rfl) h2
  obtain ⟨g, rfl, rfl, rfl, wg⟩ := open_int Try.underlying3 (hval 3 3 v3 rfl rfl) h3
  clear hA0 hval0
  refine (wmat_walk _ _ _ l_l c m g wf_l wc wm wg W ⟨hs_l, g1_l, g2_l⟩).mono fun e W' ⟨he, hb⟩ => ?_
  subst he
  exact ⟨_, rfl, law_post (B := 4) laidOut (by rw [Try.params3]; simp only [List.mem_cons, List.not_mem_nil, or_false, forall_eq_or_imp, forall_eq]; first | exact readable_worstMatchesReference | (repeat' apply And.intro) <;> first | exact of_decide_eq_true (by kernel_rfl) | kernel_rfl) rfl Try.underlying4 rfl rfl hW' hb⟩

theorem worstMatchesReference_over : Rows.worstMatchesReferenceRow.holds Try.pinned (OpenSpec.ofChange Rows.worstMatchesReferenceSpec) :=
  OpenClaim.holds_of_wide 3 Try.f3 rfl rfl rfl rfl rfl rfl rfl ⟨rfl, rfl, rfl, rfl, rfl⟩ rfl rfl rfl rfl rfl (by kernel_rfl) Try.func3 (by kernel_rfl)
    (of_decide_eq_true (by kernel_rfl)) (by unfold Func.isWrapper; first | (rw [if_pos (by decide +kernel)]; kernel_rfl) | (rw [if_neg (by decide +kernel)]; exact ⟨rfl, rfl⟩))
    (fun os started H enc _ => worstMatchesReference_lifted os started H enc)

theorem worstMatchesReference_holds : Rows.WorstMatchesReferenceSaid := worstMatchesReference_over
#print axioms worstMatchesReference_holds
end Go.Proofs.Ytmjckadaiikapaa
