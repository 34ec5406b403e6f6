/-
  WorstLeast: of the scene that Promise returns, with one channel less that is cut off the promise holds on this night, and it holds on all nights before; if a channel is cut off, exactly one guest too many is walked.
  No condition: for every input.
-/
import Derived.Test.YtegkonedeledeaaWPlain
namespace Go.Proofs.Ytegkonedeledeaa
set_option linter.unusedSimpArgs false
set_option linter.unusedVariables false
open Go.ChangeShapes Go.WideShapes Go.ChangeAt Go.RowKit


set_option maxRecDepth 100000 in
set_option maxHeartbeats 12800000 in
theorem wleast_walk (a : Option Addr) (n cap : Nat) (l : List NightV) (c most : Int) (hwf : ∀ x ∈ l, NightWf x) (_ : (Lit.int .i64 c).wf = true) (_ : (Lit.int .i64 most).wf = true) (w : World) (hv : SlN w a n l ∧ n ≤ cap ∧ cap ≤ maxLen) :
    Calls Try.prog 12 #[.slice a n cap, .int .i64 c, .int .i64 most] w fun e w' => e = .returned (.bool true) ∧ Below w.heap.size w w' := by
  obtain ⟨hs, hcap1, hcap2⟩ := hv
  unfold maxLen at hcap2
  have hcaps := wf_caps hwf
  have HS := Lib.hid hs
  have HC := Lib.hid hcaps
  have HLen := Lib.hid hs.1
  clear hs hcaps hwf
  cases hf : fewN l with
  | false =>
    have HF := Lib.hid hf
    clear hf
    go_enter Try.func12, Try.ntmps12
    go_wp2_with fail
    refine (w_head_any _).mono ?_
    rintro e w1 ⟨rfl, hb1⟩
    have HB1 : Below w.heap.size w w1 := by (repeat' (first | (with_reducible exact Below.refl _ _) | (with_reducible assumption) | (with_reducible exact Bw.out (by with_reducible assumption)) | (with_reducible refine bw_alloc ?_ _) | (with_reducible refine bw_step ?_ (by with_reducible assumption)) | (with_reducible refine Below.alloc ?_ ?_ _) | (with_reducible refine Below.drew ?_) | (with_reducible refine below_drewN ?_ _) | (with_reducible refine Below.setCell ?_ ?_ _) | (with_reducible refine below_step ?_ (by with_reducible assumption) ?_) | (with_reducible exact Nat.le_refl _) | omega | (simp; omega) | (simp; done)))
    go_wp2_with fail
    refine (R_few_any _ _ _ l _ (by omega) (HS.out.below (by (repeat' (first | (with_reducible exact Below.refl _ _) | (with_reducible assumption) | (with_reducible exact Bw.out (by with_reducible assumption)) | (with_reducible refine bw_alloc ?_ _) | (with_reducible refine bw_step ?_ (by with_reducible assumption)) | (with_reducible refine Below.alloc ?_ ?_ _) | (with_reducible refine Below.drew ?_) | (with_reducible refine below_drewN ?_ _) | (with_reducible refine Below.setCell ?_ ?_ _) | (with_reducible refine below_step ?_ (by with_reducible assumption) ?_) | (with_reducible exact Nat.le_refl _) | omega | (simp; omega) | (simp; done))))) false HF.out).mono ?_
    rintro e w' ⟨rfl, rfl⟩
    go_wp2_with fail
    go_ret
    refine ⟨(by first | rfl | exact ret_bool (by first | rfl | (simp; done) | (simp; omega))), ?_⟩
    (repeat' (first | (with_reducible exact Below.refl _ _) | (with_reducible assumption) | (with_reducible exact Bw.out (by with_reducible assumption)) | (with_reducible refine bw_alloc ?_ _) | (with_reducible refine bw_step ?_ (by with_reducible assumption)) | (with_reducible refine Below.alloc ?_ ?_ _) | (with_reducible refine Below.drew ?_) | (with_reducible refine below_drewN ?_ _) | (with_reducible refine Below.setCell ?_ ?_ _) | (with_reducible refine below_step ?_ (by with_reducible assumption) ?_) | (with_reducible exact Nat.le_refl _) | omega | (simp; omega) | (simp; done)))
  | true =>
    have hn40 : n ≤ 40 := by have := fewN_len hf; rw [HLen.out] at this; exact this
    have HF := Lib.hid hf
    clear hf
    cases hB : (nightsB l && inB c 30 && inB most 1000) with
    | false =>
      have HB := Lib.hid hB
      clear hB
      go_enter Try.func12, Try.ntmps12
      go_wp2_with fail
      refine (w_head_any _).mono ?_
      rintro e w1 ⟨rfl, hb1⟩
      have HB1 : Below w.heap.size w w1 := by (repeat' (first | (with_reducible exact Below.refl _ _) | (with_reducible assumption) | (with_reducible exact Bw.out (by with_reducible assumption)) | (with_reducible refine bw_alloc ?_ _) | (with_reducible refine bw_step ?_ (by with_reducible assumption)) | (with_reducible refine Below.alloc ?_ ?_ _) | (with_reducible refine Below.drew ?_) | (with_reducible refine below_drewN ?_ _) | (with_reducible refine Below.setCell ?_ ?_ _) | (with_reducible refine below_step ?_ (by with_reducible assumption) ?_) | (with_reducible exact Nat.le_refl _) | omega | (simp; omega) | (simp; done)))
      go_wp2_with fail
      refine (R_few_any _ _ _ l _ (by omega) (HS.out.below (by (repeat' (first | (with_reducible exact Below.refl _ _) | (with_reducible assumption) | (with_reducible exact Bw.out (by with_reducible assumption)) | (with_reducible refine bw_alloc ?_ _) | (with_reducible refine bw_step ?_ (by with_reducible assumption)) | (with_reducible refine Below.alloc ?_ ?_ _) | (with_reducible refine Below.drew ?_) | (with_reducible refine below_drewN ?_ _) | (with_reducible refine Below.setCell ?_ ?_ _) | (with_reducible refine below_step ?_ (by with_reducible assumption) ?_) | (with_reducible exact Nat.le_refl _) | omega | (simp; omega) | (simp; done))))) true HF.out).mono ?_
      rintro e w' ⟨rfl, rfl⟩
      go_wp2_with fail
      refine (Promise_arg _ _ _ l c most _ (by omega) (HS.out.below (by (repeat' (first | (with_reducible exact Below.refl _ _) | (with_reducible assumption) | (with_reducible exact Bw.out (by with_reducible assumption)) | (with_reducible refine bw_alloc ?_ _) | (with_reducible refine bw_step ?_ (by with_reducible assumption)) | (with_reducible refine Below.alloc ?_ ?_ _) | (with_reducible refine Below.drew ?_) | (with_reducible refine below_drewN ?_ _) | (with_reducible refine Below.setCell ?_ ?_ _) | (with_reducible refine below_step ?_ (by with_reducible assumption) ?_) | (with_reducible exact Nat.le_refl _) | omega | (simp; omega) | (simp; done))))) HB.out).mono ?_
      rintro e w2 ⟨rfl, hb2⟩
      have HB2 : Below w.heap.size w w2 := by (repeat' (first | (with_reducible exact Below.refl _ _) | (with_reducible assumption) | (with_reducible exact Bw.out (by with_reducible assumption)) | (with_reducible refine bw_alloc ?_ _) | (with_reducible refine bw_step ?_ (by with_reducible assumption)) | (with_reducible refine Below.alloc ?_ ?_ _) | (with_reducible refine Below.drew ?_) | (with_reducible refine below_drewN ?_ _) | (with_reducible refine Below.setCell ?_ ?_ _) | (with_reducible refine below_step ?_ (by with_reducible assumption) ?_) | (with_reducible exact Nat.le_refl _) | omega | (simp; omega) | (simp; done)))
      clear hb1 HB1
      go_wp2_with fail
      go_ret
      refine ⟨(by first | rfl | exact ret_bool (by first | rfl | (simp; done) | (simp; omega))), ?_⟩
      (repeat' (first | (with_reducible exact Below.refl _ _) | (with_reducible assumption) | (with_reducible exact Bw.out (by with_reducible assumption)) | (with_reducible refine bw_alloc ?_ _) | (with_reducible refine bw_step ?_ (by with_reducible assumption)) | (with_reducible refine Below.alloc ?_ ?_ _) | (with_reducible refine Below.drew ?_) | (with_reducible refine below_drewN ?_ _) | (with_reducible refine Below.setCell ?_ ?_ _) | (with_reducible refine below_step ?_ (by with_reducible assumption) ?_) | (with_reducible exact Nat.le_refl _) | omega | (simp; omega) | (simp; done)))
    | true =>
      have hB0 := hB
      simp only [Bool.and_eq_true] at hB0
      obtain ⟨⟨b1, b2⟩, b3⟩ := hB0
      obtain ⟨c1, c2⟩ := inB_iff.1 b2
      obtain ⟨m1, m2⟩ := inB_iff.1 b3
      obtain ⟨k, rfl⟩ := Int.eq_ofNat_of_zero_le c1
      have hk30 : k ≤ 30 := by omega
      have HN := Lib.hid b1
      have HB := Lib.hid hB
      clear hB b1 b2 b3
      rcases first_brk (brk k most) l with hno | ⟨i, x, hi, hx, hbx, hbefore⟩
      · have HNO := Lib.hid hno
        clear hno
        go_enter Try.func12, Try.ntmps12
        go_wp2_with fail
        refine (w_head_any _).mono ?_
        rintro e w1 ⟨rfl, hb1⟩
        have HB1 : Below w.heap.size w w1 := by (repeat' (first | (with_reducible exact Below.refl _ _) | (with_reducible assumption) | (with_reducible exact Bw.out (by with_reducible assumption)) | (with_reducible refine bw_alloc ?_ _) | (with_reducible refine bw_step ?_ (by with_reducible assumption)) | (with_reducible refine Below.alloc ?_ ?_ _) | (with_reducible refine Below.drew ?_) | (with_reducible refine below_drewN ?_ _) | (with_reducible refine Below.setCell ?_ ?_ _) | (with_reducible refine below_step ?_ (by with_reducible assumption) ?_) | (with_reducible exact Nat.le_refl _) | omega | (simp; omega) | (simp; done)))
        go_wp2_with fail
        refine (R_few_any _ _ _ l _ (by omega) (HS.out.below (by (repeat' (first | (with_reducible exact Below.refl _ _) | (with_reducible assumption) | (with_reducible exact Bw.out (by with_reducible assumption)) | (with_reducible refine bw_alloc ?_ _) | (with_reducible refine bw_step ?_ (by with_reducible assumption)) | (with_reducible refine Below.alloc ?_ ?_ _) | (with_reducible refine Below.drew ?_) | (with_reducible refine below_drewN ?_ _) | (with_reducible refine Below.setCell ?_ ?_ _) | (with_reducible refine below_step ?_ (by with_reducible assumption) ?_) | (with_reducible exact Nat.le_refl _) | omega | (simp; omega) | (simp; done))))) true HF.out).mono ?_
        rintro e w' ⟨rfl, rfl⟩
        go_wp2_with fail
        refine (Promise_none _ _ _ l k most _ (HS.out.below (by (repeat' (first | (with_reducible exact Below.refl _ _) | (with_reducible assumption) | (with_reducible exact Bw.out (by with_reducible assumption)) | (with_reducible refine bw_alloc ?_ _) | (with_reducible refine bw_step ?_ (by with_reducible assumption)) | (with_reducible refine Below.alloc ?_ ?_ _) | (with_reducible refine Below.drew ?_) | (with_reducible refine below_drewN ?_ _) | (with_reducible refine Below.setCell ?_ ?_ _) | (with_reducible refine below_step ?_ (by with_reducible assumption) ?_) | (with_reducible exact Nat.le_refl _) | omega | (simp; omega) | (simp; done))))) HC.out HB.out HNO.out).mono ?_
        rintro e w2 ⟨rfl, hb2⟩
        have HB2 : Below w.heap.size w w2 := by (repeat' (first | (with_reducible exact Below.refl _ _) | (with_reducible assumption) | (with_reducible exact Bw.out (by with_reducible assumption)) | (with_reducible refine bw_alloc ?_ _) | (with_reducible refine bw_step ?_ (by with_reducible assumption)) | (with_reducible refine Below.alloc ?_ ?_ _) | (with_reducible refine Below.drew ?_) | (with_reducible refine below_drewN ?_ _) | (with_reducible refine Below.setCell ?_ ?_ _) | (with_reducible refine below_step ?_ (by with_reducible assumption) ?_) | (with_reducible exact Nat.le_refl _) | omega | (simp; omega) | (simp; done)))
        clear hb1 HB1
        go_wp2_with fail
        go_ret
        refine ⟨(by first | rfl | exact ret_bool (by first | rfl | (simp; done) | (simp; omega))), ?_⟩
        (repeat' (first | (with_reducible exact Below.refl _ _) | (with_reducible assumption) | (with_reducible exact Bw.out (by with_reducible assumption)) | (with_reducible refine bw_alloc ?_ _) | (with_reducible refine bw_step ?_ (by with_reducible assumption)) | (with_reducible refine Below.alloc ?_ ?_ _) | (with_reducible refine Below.drew ?_) | (with_reducible refine below_drewN ?_ _) | (with_reducible refine Below.setCell ?_ ?_ _) | (with_reducible refine below_step ?_ (by with_reducible assumption) ?_) | (with_reducible exact Nat.le_refl _) | omega | (simp; omega) | (simp; done)))
      · have hxn := nightsB_at HN.out hx
        obtain ⟨p1, p2, ⟨p3, p4⟩, p5, p6⟩ := nightB_parts hxn
        obtain ⟨hcx1, hcx2⟩ := HC.out x (List.mem_of_getElem? hx)
        have hin : i < n := by have := (List.getElem?_eq_some_iff.1 hx).1; rw [HLen.out] at this; exact this
        obtain ⟨W, hW⟩ : ∃ W, scW x.rooms x.sold most = W := ⟨_, rfl⟩
        obtain ⟨C, hC⟩ : ∃ C, sellC x.zs (scL x.rooms x.sold most) (topL x.zs k) = C := ⟨_, rfl⟩
        obtain ⟨S, hS⟩ : ∃ S, sellS x.zs (scL x.rooms x.sold most) (topL x.zs k) = S := ⟨_, rfl⟩
        obtain ⟨m, hm⟩ : ∃ m, C.length = m := ⟨_, rfl⟩
        have hparts := sc_parts m1 p2 (brk_wk.1 hbx)
        rw [hC, hm] at hparts
        have hmk : m ≤ k := hparts.1
        have hleast : ∀ kk, m = kk + 1 → wkI x.rooms x.sold x.zs kk ≤ most ∧ W = most + 1 := fun kk h => by
          have := sc_least (k := kk) m1 p2 (brk_wk.1 hbx) (by rw [hC, hm]; exact h)
          rw [hW] at this
          exact ⟨this.1, this.2.1⟩
        have HW := Lib.hid hW
        have HCC := Lib.hid hC
        have HSS := Lib.hid hS
        have HM := Lib.hid hm
        have HX := Lib.hid hx
        have HI := Lib.hid hi
        have HBX := Lib.hid hbx
        have HBEF := Lib.hid hbefore
        have HLEAST := Lib.hid hleast
        clear hW hC hS hm hx hi hbx hbefore hparts hleast p2
        have i1 : (0 : Int) ≤ (i : Int) := by omega
        have i2 : (i : Int) < (n : Int) := by omega
        have dq1 : decide (n ≤ i) = false := by simp; omega
        have dq2 : decide ((i : Int) < 0) = false := by simp
        have dq3 : decide ((n : Int) ≤ (i : Int)) = false := by simp; omega
        go_enter Try.func12, Try.ntmps12
        go_wp2_with fail
        refine (w_head_any _).mono ?_
        rintro e w1 ⟨rfl, hb1⟩
        have HB1 : Below w.heap.size w w1 := by (repeat' (first | (with_reducible exact Below.refl _ _) | (with_reducible assumption) | (with_reducible exact Bw.out (by with_reducible assumption)) | (with_reducible refine bw_alloc ?_ _) | (with_reducible refine bw_step ?_ (by with_reducible assumption)) | (with_reducible refine Below.alloc ?_ ?_ _) | (with_reducible refine Below.drew ?_) | (with_reducible refine below_drewN ?_ _) | (with_reducible refine Below.setCell ?_ ?_ _) | (with_reducible refine below_step ?_ (by with_reducible assumption) ?_) | (with_reducible exact Nat.le_refl _) | omega | (simp; omega) | (simp; done)))
        go_wp2_with fail
        refine (R_few_any _ _ _ l _ (by omega) (HS.out.below (by (repeat' (first | (with_reducible exact Below.refl _ _) | (with_reducible assumption) | (with_reducible exact Bw.out (by with_reducible assumption)) | (with_reducible refine bw_alloc ?_ _) | (with_reducible refine bw_step ?_ (by with_reducible assumption)) | (with_reducible refine Below.alloc ?_ ?_ _) | (with_reducible refine Below.drew ?_) | (with_reducible refine below_drewN ?_ _) | (with_reducible refine Below.setCell ?_ ?_ _) | (with_reducible refine below_step ?_ (by with_reducible assumption) ?_) | (with_reducible exact Nat.le_refl _) | omega | (simp; omega) | (simp; done))))) true HF.out).mono ?_
        rintro e w' ⟨rfl, rfl⟩
        go_wp2_with fail
        refine (Promise_c _ _ _ l k most i x.rooms x.sold x.zs x.n x.cap _ (HS.out.below (by (repeat' (first | (with_reducible exact Below.refl _ _) | (with_reducible assumption) | (with_reducible exact Bw.out (by with_reducible assumption)) | (with_reducible refine bw_alloc ?_ _) | (with_reducible refine bw_step ?_ (by with_reducible assumption)) | (with_reducible refine Below.alloc ?_ ?_ _) | (with_reducible refine Below.drew ?_) | (with_reducible refine below_drewN ?_ _) | (with_reducible refine Below.setCell ?_ ?_ _) | (with_reducible refine below_step ?_ (by with_reducible assumption) ?_) | (with_reducible exact Nat.le_refl _) | omega | (simp; omega) | (simp; done))))) HC.out HB.out x.at' HX.out HI.out HBX.out W C S m HW.out HCC.out HSS.out HM.out _ rfl).mono ?_
        rintro e w2 ⟨a1, d1, a2, d2, rfl, K1, K2, hb2⟩
        have HB2 : Below w.heap.size w w2 := by (repeat' (first | (with_reducible exact Below.refl _ _) | (with_reducible assumption) | (with_reducible exact Bw.out (by with_reducible assumption)) | (with_reducible refine bw_alloc ?_ _) | (with_reducible refine bw_step ?_ (by with_reducible assumption)) | (with_reducible refine Below.alloc ?_ ?_ _) | (with_reducible refine Below.drew ?_) | (with_reducible refine below_drewN ?_ _) | (with_reducible refine Below.setCell ?_ ?_ _) | (with_reducible refine below_step ?_ (by with_reducible assumption) ?_) | (with_reducible exact Nat.le_refl _) | omega | (simp; omega) | (simp; done)))
        clear hb1 HB1
        go_wp2_with fail
        generalize hW3 : w2.alloc (.cells #[.int .i64 i, .int .i64 W, .slice a1 m d1, .slice a2 m d2] 51) = w3
        have Rs : Row w3 w2.heap.size [.int .i64 i, .int .i64 W, .slice a1 m d1, .slice a2 m d2] := by rw [← hW3]; (repeat' (first | (with_reducible assumption) | (with_reducible refine Row.new' _ _ _ (by first | rfl | (simp; done) | omega)) | (with_reducible refine Row.alloc ?_ _) | (with_reducible refine Row.drew ?_) | (with_reducible refine Row.drewN ?_ _) | (with_reducible refine Row.step ?_ (by with_reducible assumption))))
        have HB3 : Hid (Below w.heap.size w w3) := by show Below _ _ _; rw [← hW3]; (repeat' (first | (with_reducible exact Below.refl _ _) | (with_reducible assumption) | (with_reducible exact Bw.out (by with_reducible assumption)) | (with_reducible refine bw_alloc ?_ _) | (with_reducible refine bw_step ?_ (by with_reducible assumption)) | (with_reducible refine Below.alloc ?_ ?_ _) | (with_reducible refine Below.drew ?_) | (with_reducible refine below_drewN ?_ _) | (with_reducible refine Below.setCell ?_ ?_ _) | (with_reducible refine below_step ?_ (by with_reducible assumption) ?_) | (with_reducible exact Nat.le_refl _) | omega | (simp; omega) | (simp; done)))
        obtain ⟨Bs, hBs⟩ : ∃ Bs, w2.heap.size = Bs := ⟨_, rfl⟩
        rw [hBs] at Rs ⊢
        have HS3 := Lib.hid (HS.out.below HB3.out)
        have lBs := Rs.lt
        clear hW3 hBs K1 K2 hb2 HB2
        go_loopw [11] (fun u wr => ∃ j : Nat, j ≤ i ∧ u = .int .i64 j ∧ Bw w3.heap.size w3 wr) (fun u _ => i - (intOf u).toNat)
        case atStart => exact ⟨0, Nat.zero_le _, rfl, Below.refl _ _⟩
        case round =>
          obtain ⟨j, hj, rfl, hBr⟩ := hrel
          have hBr' := hBr.out
          have Rsr := Rs.step hBr'
          have s0 := Rsr.cell 0 rfl
          have s1 := Rsr.cell 1 rfl
          have s2 := Rsr.cell 2 rfl
          by_cases hlt : j < i
          · obtain ⟨y, b, off, hy, rfl, hb, KY, hyn, e0, e1, e2⟩ := (HS3.out.below hBr').night HC.out (show j < n by omega)
            have hwk : wkI y.rooms y.sold y.zs k ≤ most := brk_wkf.1 (HBEF.out j y hlt hy.out)
            obtain ⟨X, hX⟩ : ∃ X, wkI y.rooms y.sold y.zs k = X := ⟨_, rfl⟩
            rw [hX] at hwk
            have hwa : waE y.rooms y.sold y.zs (k : Int) = true := by unfold waE; rw [nightsB_at HN.out hy.out, inB_true (by omega) (by omega)]; rfl
            have HX1 : Hid (ifI (waE y.rooms y.sold y.zs (k : Int)) (wkI y.rooms y.sold y.zs (k : Int).toNat) 0 = X) := by show _ = _; rw [hwa, Int.toNat_natCast]; exact hX
            have HX2 : Hid (ifI (waE y.rooms y.sold y.zs (k : Int)) 0 1 = 0) := by show _ = _; rw [hwa]; rfl
            clear hX hwa
            have j1 : (0 : Int) ≤ (j : Int) := by omega
            have j2 : (j : Int) < (n : Int) := by omega
            go_wp2_with fail
            refine (Walked_any y.rooms y.sold k _ _ _ y.zs _ KY.out hyn X 0 HX1.out HX2.out).mono ?_
            rintro e w4 ⟨rfl, hb4⟩
            have hB4 : Bw w3.heap.size w3 w4 := bw_step hBr' hb4
            go_wp2_with fail
            go_roundw
            case rel => first | exact ⟨j + 1, by omega, by go_num, hB4⟩ | ((repeat apply Exists.intro); exact ⟨⟨j + 1, by omega, by go_num, hB4⟩, rfl⟩)
            case measure => simp [intOf]; omega
          · obtain rfl : j = i := by omega
            have HB4 : Hid (Below w.heap.size w wr) := HB3.out.trans (hBr'.mono HB3.out.size)
            rcases Nat.eq_zero_or_pos m with rfl | hmp
            · go_wp2_with fail
              go_ret
              exact ⟨rfl, HB4.out⟩
            · obtain ⟨kk, rfl⟩ : ∃ kk, m = kk + 1 := ⟨m - 1, by omega⟩
              obtain ⟨hl1, hl2⟩ := HLEAST.out kk rfl
              subst hl2
              obtain ⟨y, b, off, hy, rfl, hb, KY, hyn, e0, e1, e2⟩ := (HS3.out.below hBr').night HC.out hin
              have e := hy.out.symm.trans HX.out
              cases e
              obtain ⟨X, hX⟩ : ∃ X, wkI x.rooms x.sold x.zs kk = X := ⟨_, rfl⟩
              rw [hX] at hl1
              have hwa : waE x.rooms x.sold x.zs (kk : Int) = true := by unfold waE; rw [hxn, inB_true (by omega) (by omega)]; rfl
              have HX1 : Hid (ifI (waE x.rooms x.sold x.zs (kk : Int)) (wkI x.rooms x.sold x.zs (kk : Int).toNat) 0 = X) := by show _ = _; rw [hwa, Int.toNat_natCast]; exact hX
              have HX2 : Hid (ifI (waE x.rooms x.sold x.zs (kk : Int)) 0 1 = 0) := by show _ = _; rw [hwa]; rfl
              clear hX hwa
              have lr := Rsr.lt
              have hcast : IntKind.i64.wrap (kk : Int) = (kk : Int) := IntWalk.i64_in _ (by omega)
              have HKS : Hid (∀ w', Below wr.heap.size wr w' → w'.cell? ⟨b, off + j * 3, none⟩ = some (.int .i64 x.rooms) ∧ w'.cell? ⟨b, off + j * 3 + 1, none⟩ = some (.int .i64 x.sold) ∧ w'.cell? ⟨b, off + j * 3 + 2, none⟩ = some (.slice x.at' x.n x.cap) ∧ w'.cell? ⟨Bs, 0, none⟩ = some (.int .i64 j) ∧ w'.cell? ⟨Bs, 2, none⟩ = some (.slice a1 (kk + 1) d1)) := fun w' h =>
                ⟨(h.cell (p := ⟨b, off + j * 3, none⟩) hb).trans e0, (h.cell (p := ⟨b, off + j * 3 + 1, none⟩) hb).trans e1, (h.cell (p := ⟨b, off + j * 3 + 2, none⟩) hb).trans e2, (Rsr.step h).cell 0 rfl, (Rsr.step h).cell 2 rfl⟩
              go_wp2_with fail
              go_region_held3 (fun w' => w'.cell? ⟨b, off + j * 3, none⟩ = some (.int .i64 x.rooms) ∧ w'.cell? ⟨b, off + j * 3 + 1, none⟩ = some (.int .i64 x.sold) ∧ w'.cell? ⟨b, off + j * 3 + 2, none⟩ = some (.slice x.at' x.n x.cap) ∧ w'.cell? ⟨Bs, 0, none⟩ = some (.int .i64 j) ∧ w'.cell? ⟨Bs, 2, none⟩ = some (.slice a1 (kk + 1) d1))
                ((exact HKS.out _ (by (repeat' (first | (with_reducible exact Below.refl _ _) | (with_reducible assumption) | (with_reducible exact Bw.out (by with_reducible assumption)) | (with_reducible refine bw_alloc ?_ _) | (with_reducible refine bw_step ?_ (by with_reducible assumption)) | (with_reducible refine Below.alloc ?_ ?_ _) | (with_reducible refine Below.drew ?_) | (with_reducible refine below_drewN ?_ _) | (with_reducible refine Below.setCell ?_ ?_ _) | (with_reducible refine below_step ?_ (by with_reducible assumption) ?_) | (with_reducible exact Nat.le_refl _) | omega | (simp; omega) | (simp; done)))))) ((go_at_call 32; (with_reducible refine (Walked_any x.rooms x.sold kk _ _ _ x.zs wr.drew (SlC.drew KY.out) hyn X 0 HX1.out HX2.out).mono ?_); rintro e wx ⟨rfl, hbx⟩))
              have hb9 : Below wr.heap.size wr wx := (Below.drew (Below.refl wr.heap.size wr)).trans hbx
              have hbx2 : Below w.heap.size w wx := HB4.out.trans (hb9.mono HB4.out.size)
              have Rz := Rsr.step hb9
              clear hb9
              have z0 := Rz.cell 0 rfl
              have z1 := Rz.cell 1 rfl
              clear hbx hcast
              go_wp2_with fail
              go_ret
              exact ⟨by first | rfl | exact ret_bool (by first | rfl | (simp; done) | (simp; omega)), hbx2⟩


set_option maxRecDepth 100000 in
theorem worstLeast_lifted (os : Os) (started : os.Started) (H : Type) (enc : TypeId × Value → H) :
    ReturnsInHanded {} Try.checked os 12 .any (Rows.worstLeastSpec.pre6 enc Try.prog Try.f12 Rows.worstLeastRow.domain false) (Rows.worstLeastSpec.post enc Try.prog Try.f12 false true false false) := by
  refine returnsInHanded_of_change (C := Try.checked) own started (by kernel_rfl) Try.func12
    (ChangeSpec.witness6 (enc := enc) (C := Try.checked) false ⟨#[], #[.slice none 0 0, .int .i64 0, .int .i64 0], []⟩ 8 (by kernel_rfl) (by kernel_rfl) (by kernel_rfl) (by kernel_rfl)) ?_
  intro W base args ds gs before hval0 hW _ _
  have hval : ∀ (j : Nat) t v, Try.f12.params[j]? = some t → args[j]? = some v → Value.okWide Try.prog W .any base t v := hval0
  have hW' := hW
  obtain ⟨p, q, hA0, hV, rfl, hfz, hnd⟩ := hW
  obtain ⟨rfl, rfl⟩ := trodVars_none hV
  have hA : DataW.TrodAll enc Try.prog W 0 (fun _ => true) true Try.f12.params.toList args.toList ds p := hA0
  rw [Try.params12] at hA hval
  obtain ⟨v0, vs0, d0, ds0, p0, q0, hargs, rfl, rfl, h0, r0⟩ := trodAll_cons hA
  obtain ⟨v1, vs1, d1, ds1, p1, q1, rfl, rfl, rfl, h1, r1⟩ := trodAll_cons r0
  obtain ⟨v2, vs2, d2, ds2, p2, q2, rfl, rfl, rfl, h2, r2⟩ := trodAll_cons r1
  obtain ⟨rfl, rfl, rfl⟩ := trodAll_nil r2
  obtain rfl : args = #[v0, v1, v2] := by cases args; simp_all
  obtain ⟨a0_l, n0_l, c0_l, rfl⟩ := okWide_slice Try.underlying22 (hval 0 22 v0 rfl rfl)
  obtain ⟨fu_l, hf_l⟩ := h0
  obtain ⟨a_l, n_l, c_l, l_l, e_l, g1_l, g2_l, hs_l, wf_l⟩ := sln_of_nights (by simpa [Value.cells] using hf_l)
  cases e_l
  obtain ⟨c, rfl, rfl, rfl, wc⟩ := open_int Try.underlying3 (hval 1 3 v1 rfl rfl) h1
  obtain ⟨m, rfl, rfl, rfl, wm⟩ := open_int Try.underlying3 (hval 2 3 v2 rfl rfl) h2
  clear hA0 hval0
  refine (wleast_walk _ _ _ l_l c m wf_l wc wm W ⟨hs_l, g1_l, g2_l⟩).mono fun e W' ⟨he, hb⟩ => ?_
  subst he
  exact ⟨_, rfl, law_post (B := 4) laidOut (by rw [Try.params12]; simp only [List.mem_cons, List.not_mem_nil, or_false, forall_eq_or_imp, forall_eq]; first | exact readable_worstLeast | (repeat' apply And.intro) <;> first | exact of_decide_eq_true (by kernel_rfl) | kernel_rfl) rfl Try.underlying4 rfl rfl hW' hb⟩

theorem worstLeast_over : Rows.worstLeastRow.holds Try.pinned (OpenSpec.ofChange Rows.worstLeastSpec) :=
  OpenClaim.holds_of_wide 12 Try.f12 rfl rfl rfl rfl rfl rfl rfl ⟨rfl, rfl, rfl, rfl, rfl⟩ rfl rfl rfl rfl rfl (by kernel_rfl) Try.func12 (by kernel_rfl)
    (of_decide_eq_true (by kernel_rfl)) (by unfold Func.isWrapper; first | (rw [if_pos (by decide +kernel)]; kernel_rfl) | (rw [if_neg (by decide +kernel)]; exact ⟨rfl, rfl⟩))
    (fun os started H enc _ => worstLeast_lifted os started H enc)

theorem worstLeast_holds : Rows.WorstLeastSaid := worstLeast_over
#print axioms worstLeast_holds
end Go.Proofs.Ytegkonedeledeaa
