/-
  SceneFurther: a further sale adds at most one guest on each of its nights, exactly one where there are as many sales as rooms already, and none on others; the order of sales plays no part.
  No condition: for every input.
-/
import Derived.Test.YtdijdfhlmnhcjaaScnM
import Derived.BigQuiet
namespace Go.Proofs.Ytdijdfhlmnhcjaa
set_option linter.unusedSimpArgs false
set_option linter.unusedVariables false
open Go.ChangeShapes Go.WideShapes Go.ChangeAt Go.RowKit Go.MapKept

set_option maxRecDepth 100000 in
set_option maxHeartbeats 12800000 in
theorem scfurther_walk (a : Option Addr) (n cap : Nat) (l : List NightV) (b : Option Addr) (m bcap : Nat) (S : List SaleV) (y : Int) (_ : ∀ x ∈ l, NightWf x) (hwS : ∀ x ∈ S, SaleWf x) (hwy : (Lit.int .u8 y).wf = true) (w : World)
    (hl : SlN w a n l ∧ n ≤ cap ∧ cap ≤ maxLen) (hS : SlS w b m S ∧ m ≤ bcap ∧ bcap ≤ maxLen) :
    Calls Try.prog 6 #[.slice a n cap, .slice b m bcap, .int .u8 y] w fun e w' => e = .returned (.bool true) ∧ Below w.heap.size w w' := by
  obtain ⟨hs, k1, k2⟩ := hl
  obtain ⟨ht, k3, k4⟩ := hS
  unfold maxLen at k2 k4
  have HS := Lib.hid hs
  have HT := Lib.hid ht
  have HW := Lib.hid hwS
  have HSL := Lib.hid hs.1
  have HTL := Lib.hid ht.1
  obtain ⟨y0, y1⟩ := bd_u8 hwy
  clear hs ht hwS hwy
  by_cases hm0 : m = 0
  · have hz0 : ((m : Int) == 0) = true := by simp; omega
    go_enter Try.func6, Try.ntmps6
    go_wp2_with fail
    refine (s_head_any _).mono ?_
    rintro e w1 ⟨rfl, hb1⟩
    have HB1 := Lib.hid hb1
    clear hb1
    go_wp2_with fail
    go_ret
    exact ⟨rfl, HB1.out⟩
  · have hz0 : ((m : Int) == 0) = false := by simp; omega
    have hmp : 0 < m := by omega
    clear hm0
    cases hR : (fewB l S [] && cntB l S []) with
    | false =>
      have HR := Lib.hid hR
      clear hR
      go_enter Try.func6, Try.ntmps6
      go_wp2_with fail
      refine (s_head_any _).mono ?_
      rintro e w1 ⟨rfl, hb1⟩
      have HB1 := Lib.hid hb1
      clear hb1
      go_wp2_with fail
      refine (right25_any a n cap l b m bcap S none 0 0 [] _ (by omega) (by omega) (by omega) (HS.out.below HB1.out) (HT.out.step HB1.out) (SlI.nil _ _) false HR.out).mono ?_
      rintro e w2 ⟨rfl, hb2⟩
      have HB2 : Hid (Below w.heap.size w w2) := HB1.out.trans (hb2.mono HB1.out.size)
      clear hb2
      go_wp2_with fail
      go_ret
      exact ⟨rfl, HB2.out⟩
    | true =>
      have HR := Lib.hid hR
      rw [Bool.and_eq_true] at hR
      obtain ⟨hF, hB⟩ := hR
      obtain ⟨_, f1, f2, _⟩ := fewB_in hF
      have hm2 : m ≤ 200 := by have := HTL.out; omega
      have hn2 : n ≤ 400 := by have := HSL.out; omega
      have HCB := Lib.hid hB
      have HNB := Lib.hid (cntB_in hB).1
      have HSB := Lib.hid (cntB_in hB).2.1
      have HF2 := Lib.hid f2
      clear hF hB f1 f2
      obtain ⟨Y, rfl⟩ := Int.eq_ofNat_of_zero_le y0
      obtain ⟨p, hp⟩ : ∃ p : Nat, Y % m = p := ⟨_, rfl⟩
      have hpm : p < m := by rw [← hp]; exact Nat.mod_lt _ hmp
      have hmod : ((Y : Int)).tmod (m : Int) = (p : Int) := by rw [← hp]; rfl
      have hwY : IntKind.i64.wrap (Y : Int) = (Y : Int) := IntWalk.i64_in _ (by omega)
      have hwp : IntKind.i64.wrap (p : Int) = (p : Int) := IntWalk.i64_in _ (by omega)
      clear hp
      go_enter Try.func6, Try.ntmps6
      go_wp2_with fail
      refine (s_head_any _).mono ?_
      rintro e w1 ⟨rfl, hb1⟩
      have HB1 := Lib.hid hb1
      clear hb1
      go_wp2_with fail
      refine (right25_any a n cap l b m bcap S none 0 0 [] _ (by omega) (by omega) (by omega) (HS.out.below HB1.out) (HT.out.step HB1.out) (SlI.nil _ _) true HR.out).mono ?_
      rintro e w2 ⟨rfl, hb2⟩
      have HB2 : Hid (Below w.heap.size w w2) := HB1.out.trans (hb2.mono HB1.out.size)
      clear hb2 HB1
      obtain ⟨x, bb, off, hx, hab, _, c0, c1, c2, c3, c4, c5, c6, c7⟩ := (HT.out.step HB2.out).get hpm
      subst hab
      obtain ⟨id, ch, tm, ct, kd, fr, un, pe⟩ := x
      simp only [] at c0 c1 c2 c3 c4 c5 c6 c7
      have p1 : (0 : Int) ≤ (p : Int) := by omega
      have p2 : (p : Int) < (m : Int) := by omega
      go_upto_region 6 with fail
      have R3 : Row (w2.alloc (.cells #[.int .i64 id, .int .i64 ch, .int .i64 tm, .bool ct, .int .i64 kd, .int .i64 fr, .int .i64 un, .int .i64 pe] 44)) w2.heap.size [.int .i64 id, .int .i64 ch, .int .i64 tm, .bool ct, .int .i64 kd, .int .i64 fr, .int .i64 un, .int .i64 pe] := Row.new' _ _ _ rfl
      have hal : Below w2.heap.size w2 (w2.alloc (.cells #[.int .i64 id, .int .i64 ch, .int .i64 tm, .bool ct, .int .i64 kd, .int .i64 fr, .int .i64 un, .int .i64 pe] 44)) := by (repeat' (first | (with_reducible exact Below.refl _ _) | (with_reducible assumption) | (with_reducible exact Bw.out (by with_reducible assumption)) | (with_reducible refine bw_alloc ?_ _) | (with_reducible refine bw_step ?_ (by with_reducible assumption)) | (with_reducible refine Below.alloc ?_ ?_ _) | (with_reducible refine Below.drew ?_) | (with_reducible refine below_drewN ?_ _) | (with_reducible refine Below.setCell ?_ ?_ _) | (with_reducible refine below_step ?_ (by with_reducible assumption) ?_) | (with_reducible exact Nat.le_refl _) | omega | (simp; omega) | (simp; done)))
      obtain ⟨w3, hw3⟩ : ∃ W, w2.alloc (.cells #[.int .i64 id, .int .i64 ch, .int .i64 tm, .bool ct, .int .i64 kd, .int .i64 fr, .int .i64 un, .int .i64 pe] 44) = W := ⟨_, rfl⟩
      rw [hw3] at R3 hal
      try rw [hw3]
      have HB3 : Hid (Below w.heap.size w w3) := HB2.out.trans (hal.mono HB2.out.size)
      obtain ⟨g3, hg3⟩ : ∃ g, w2.heap.size = g := ⟨_, rfl⟩
      rw [hg3] at R3
      try rw [hg3]
      have HR3 := Lib.hid R3
      have HX := hx
      clear hw3 hal hg3 R3 c0 c1 c2 c3 c4 c5 c6 c7 hx HB2 hmod hwY hwp
      go_wp2_with fail
      go_loopw [10, 11, 47] (fun vl vb vi wr => ∃ (k d : Nat) (al ab : Option Addr) (cl cb : Nat), k ≤ m ∧ d ≤ k ∧ vl = .slice al d cl ∧ vb = .slice ab k cb ∧ vi = .int .i64 k ∧ Hid ((lessK S p k).length = d) ∧ Hid (TwoX wr w3.heap.size (.slice ab k cb) (S.reverse.take k) (.slice al d cl) (lessK S p k)) ∧ Hid (Below w3.heap.size w3 wr)) (fun _ _ vi _ => m - (intOf vi).toNat)
      case atStart => exact ⟨0, 0, none, none, 0, 0, Nat.zero_le _, Nat.le_refl _, rfl, rfl, rfl, by show _ = _; simp [lessK], by show TwoX _ _ _ _ _ _; simp only [lessK, List.take_zero, List.eraseIdx_nil]; exact TwoX.nil _ _, Below.refl _ _⟩
      case round =>
        obtain ⟨k, d, al, ab, cl, cb, hk, hdk, rfl, rfl, rfl, hD, hO, hB⟩ := hrel
        have hBw : Hid (Below w.heap.size w wr) := HB3.out.trans (hB.out.mono HB3.out.size)
        have hsz := hB.out.size
        by_cases hlt : k < m
        · obtain ⟨j, hj⟩ : ∃ j, k + j + 1 = m := ⟨m - 1 - k, by omega⟩
          have hjm : j < m := by omega
          have i1 : (0 : Int) ≤ (k : Int) := by omega
          have i2 : (k : Int) < (m : Int) := by omega
          have i3 : (m : Int) - 1 - (k : Int) = (j : Int) := by omega
          have i4 : (0 : Int) ≤ (j : Int) := by omega
          have i5 : (j : Int) < (m : Int) := by omega
          obtain ⟨x, bx, offx, hxj, hab, _, c0, c1, c2, c3, c4, c5, c6, c7⟩ := (HT.out.step hBw.out).get hjm
          cases hab
          obtain ⟨id1, ch1, tm1, ct1, kd1, fr1, un1, pe1⟩ := x
          simp only [] at c0 c1 c2 c3 c4 c5 c6 c7
          have HLR : Hid ((S.reverse.take k).length = k) := by
            show _ = _; rw [List.length_take, List.length_reverse, HTL.out]; omega
          have HTR := Lib.hid (rev_takeS (by rw [HTL.out]; exact hj) hxj.out)
          go_upto_region 11 with (at_builtin; refine wpList_append_sale rfl _ _ _ rfl Try.underlying26 w3.heap.size _ _ rfl (hO.out.1.alloc _) wr.heap.size 1 ⟨id1, ch1, tm1, ct1, kd1, fr1, un1, pe1⟩ rfl (Row.new' wr _ _ rfl) (by rw [HLR.out]; omega) (by simp; omega) ?_; intro v4 w4 hown hgrn hown2 hbel)
          have hO4 := (hO.out.alloc (.cells #[.int .i64 id1, .int .i64 ch1, .int .i64 tm1, .bool ct1, .int .i64 kd1, .int .i64 fr1, .int .i64 un1, .int .i64 pe1] 44)).app hown hgrn hown2
          rw [← HTR.out] at hO4
          obtain ⟨ab4, cb4, rfl, _⟩ := hO4.1.shape (k + 1) (by rw [List.length_take, List.length_reverse, HTL.out]; omega)
          have HO4 := Lib.hid hO4
          have HB4 := Lib.hid (hbel _ (hB.out.alloc hsz _))
          have hBw4 : Hid (Below w.heap.size w w4) := HB3.out.trans (HB4.out.mono HB3.out.size)
          have hsz4 := HB4.out.size
          clear hown hgrn hown2 hbel hO4 hO hB c0 c1 c2 c3 c4 c5 c6 c7 hBw i3 i4 i5 HTR HLR hxj
          by_cases hkp : k = p
          · subst hkp
            have HLE : Hid (lessK S k (k + 1) = lessK S k k) := by show _ = _; rw [lessK_succ HX.out, if_pos rfl]
            go_wp2_with fail
            go_roundw
            case rel => exact ⟨k + 1, d, al, ab4, cl, cb4, by omega, by omega, rfl, rfl, by go_num, by show _ = _; rw [HLE.out]; exact hD.out, by show TwoX _ _ _ _ _ _; rw [HLE.out]; exact HO4.out, HB4.out⟩
            case measure => simp [intOf]; omega
          · have hkp2 : ((k : Int) != (p : Int)) = true := by simp; omega
            obtain ⟨x, bx, offx, hxk, hab, _, c0, c1, c2, c3, c4, c5, c6, c7⟩ := (HT.out.step hBw4.out).get hlt
            cases hab
            have HLE : Hid (lessK S p (k + 1) = lessK S p k ++ [x]) := by show _ = _; rw [lessK_succ hxk.out, if_neg hkp]
            obtain ⟨id2, ch2, tm2, ct2, kd2, fr2, un2, pe2⟩ := x
            simp only [] at c0 c1 c2 c3 c4 c5 c6 c7
            clear hkp hxk
            go_upto_region 13 with (at_builtin; refine wpList_append_sale rfl _ _ _ rfl Try.underlying26 w3.heap.size _ _ rfl (HO4.out.2.1.alloc _) w4.heap.size 1 ⟨id2, ch2, tm2, ct2, kd2, fr2, un2, pe2⟩ rfl (Row.new' w4 _ _ rfl) (by rw [hD.out]; omega) (by simp; omega) ?_; intro v5 w5 hown hgrn hown2 hbel)
            have hO5 := ((HO4.out.alloc (.cells #[.int .i64 id2, .int .i64 ch2, .int .i64 tm2, .bool ct2, .int .i64 kd2, .int .i64 fr2, .int .i64 un2, .int .i64 pe2] 44)).swap.app hown hgrn hown2).swap
            rw [← HLE.out] at hO5
            have HD5 : Hid ((lessK S p (k + 1)).length = d + 1) := by show _ = _; rw [HLE.out, List.length_append, hD.out]; rfl
            obtain ⟨al5, cl5, rfl, _⟩ := hO5.2.1.shape (d + 1) HD5.out
            have HO5 := Lib.hid hO5
            have HB5 := Lib.hid (hbel _ (HB4.out.alloc hsz4 _))
            clear hown hgrn hown2 hbel hO5 HO4 HB4 c0 c1 c2 c3 c4 c5 c6 c7 hBw4
            go_wp2_with fail
            go_roundw
            case rel => exact ⟨k + 1, d + 1, al5, ab4, cl5, cb4, by omega, by omega, rfl, rfl, by go_num, HD5.out, HO5.out, HB5.out⟩
            case measure => simp [intOf]; omega
        · obtain rfl : m = k := by omega
          have HLS : Hid (SlS wr al d (S.eraseIdx p) ∧ (S.eraseIdx p).length = d) := by
            have h1 := hO.out.2.1.sl.1
            have h2 := hD.out
            have e : lessK S p m = S.eraseIdx p := by rw [← HTL.out]; exact lessK_all
            rw [e] at h1 h2
            exact ⟨h1, h2⟩
          have HBS : Hid (SlS wr ab m S.reverse) := by
            have h1 := hO.out.1.sl.1
            rw [List.take_of_length_le (by rw [List.length_reverse, HTL.out]; exact Nat.le_refl _)] at h1
            exact h1
          have HR4 := Lib.hid (HR3.out.below hB.out HR3.out.lt)
          clear hO hB hD HB3 hsz HR3
          go_wp2_with fail
          refine (Count_c a n cap l al d cl (S.eraseIdx p) none 0 0 [] _ (HS.out.below hBw.out) HLS.out.1 (SlI.nil _ _) (fun x hx => HW.out x ((List.eraseIdx_sublist _ _).subset hx)) (cntB_none HNB.out (salesB_sub (List.eraseIdx_sublist _ _) HSB.out))).mono ?_
          rintro e w5 ⟨ga, rfl, hka, hb5⟩
          have HKA := Lib.hid hka
          have HB5 : Hid (Below w.heap.size w w5) := hBw.out.trans (hb5.mono hBw.out.size)
          have HLS5 := Lib.hid (HLS.out.1.step hb5)
          have HLL := Lib.hid HLS.out.2
          have HBS5 := Lib.hid (HBS.out.step hb5)
          have HR5 := Lib.hid (HR4.out.step hb5)
          clear hb5 hka HLS HBS HR4 hBw
          go_wp2_with fail
          refine (Count_c a n cap l _ m bcap S none 0 0 [] _ (HS.out.below HB5.out) (HT.out.step HB5.out) (SlI.nil _ _) HW.out HCB.out).mono ?_
          rintro e w6 ⟨gb, rfl, hkb, hb6⟩
          have HKB := Lib.hid hkb
          have HKA6 := Lib.hid (HKA.out.below hb6)
          have HB6 : Hid (Below w.heap.size w w6) := HB5.out.trans (hb6.mono HB5.out.size)
          have HLS6 := Lib.hid (HLS5.out.step hb6)
          have HBS6 := Lib.hid (HBS5.out.step hb6)
          have HR6 := Lib.hid (HR5.out.step hb6)
          clear hb6 hkb HKA HLS5 HBS5 HR5 HB5
          go_wp2_with fail
          refine (Count_c a n cap l ab m cb S.reverse none 0 0 [] _ (HS.out.below HB6.out) HBS6.out (SlI.nil _ _) (fun x hx => HW.out x (List.mem_reverse.1 hx)) (cntB_none HNB.out (salesB_rev HSB.out))).mono ?_
          rintro e w7 ⟨gc, rfl, hkc, hb7⟩
          rw [cntL_rev] at hkc
          have HKC := Lib.hid hkc
          have HKA7 := Lib.hid (HKA6.out.below hb7)
          have HKB7 := Lib.hid (HKB.out.below hb7)
          have HB7 : Hid (Below w.heap.size w w7) := HB6.out.trans (hb7.mono HB6.out.size)
          have HLS7 := Lib.hid (HLS6.out.step hb7)
          have HR7 := Lib.hid (HR6.out.step hb7)
          clear hb7 hkc HKA6 HKB HLS6 HBS6 HR6 HB6
          go_wp2_with fail
          refine (R22_same_q _ _ n n n n (cntL l S []) (cntL l S []) _ (by omega) (by omega) HKB7.out HKC.out).mono ?_
          rintro e w8 ⟨rfl, q8, rfl⟩
          have hdt : decide (cntL l S [] = cntL l S []) = true := by simp
          rw [hdt]
          clear hdt
          have HB8 : Hid (Below w7.heap.size w7 (w7.drewN q8)) := below_drewN (Below.refl _ _) _
          generalize w7.drewN q8 = w8 at HB8 ⊢
          go_wp2_with fail
          go_loopw [7, 122] (fun up vi wr => ∃ k : Nat, k ≤ n ∧ up = .bool true ∧ vi = .int .i64 k ∧ Hid (Below w7.heap.size w7 wr)) (fun _ vi _ => n - (intOf vi).toNat)
          case atStart => exact ⟨0, Nat.zero_le _, rfl, rfl, HB8.out⟩
          case round =>
            obtain ⟨k, hk, rfl, rfl, hB⟩ := hrel
            have hBww : Hid (Below w.heap.size w wr) := HB7.out.trans (hB.out.mono HB7.out.size)
            have hsz := hB.out.size
            by_cases hkn : k < n
            · obtain ⟨x, bn, offn, hx, _, hin, hab, _, c0, c1, c2⟩ := (HS.out.below hBww.out).get hkn
              subst hab
              have HRA := Lib.hid (roomAt_get hx)
              have hrm := nightB_nums ((nightsB_in HNB.out).2 _ (List.mem_of_getElem? hx))
              obtain ⟨rm, sd, sa, sn, sc, sz⟩ := x
              simp only [] at c0 c1 c2 HRA hrm
              obtain ⟨⟨r0, r1⟩, _⟩ := hrm
              have i1 : (0 : Int) ≤ (k : Int) := by omega
              have i2 : (k : Int) < (n : Int) := by omega
              clear hx hin
              go_upto_region 22 with fail
              have R6 : Row (wr.alloc (.cells #[.int .i64 rm, .int .i64 sd, .slice sa sn sc] 46)) wr.heap.size [.int .i64 rm, .int .i64 sd, .slice sa sn sc] := Row.new' _ _ _ rfl
              have hal : Below wr.heap.size wr (wr.alloc (.cells #[.int .i64 rm, .int .i64 sd, .slice sa sn sc] 46)) := by (repeat' (first | (with_reducible exact Below.refl _ _) | (with_reducible assumption) | (with_reducible exact Bw.out (by with_reducible assumption)) | (with_reducible refine bw_alloc ?_ _) | (with_reducible refine bw_step ?_ (by with_reducible assumption)) | (with_reducible refine Below.alloc ?_ ?_ _) | (with_reducible refine Below.drew ?_) | (with_reducible refine below_drewN ?_ _) | (with_reducible refine Below.setCell ?_ ?_ _) | (with_reducible refine below_step ?_ (by with_reducible assumption) ?_) | (with_reducible exact Nat.le_refl _) | omega | (simp; omega) | (simp; done)))
              obtain ⟨w6, hw6⟩ : ∃ W, wr.alloc (.cells #[.int .i64 rm, .int .i64 sd, .slice sa sn sc] 46) = W := ⟨_, rfl⟩
              rw [hw6] at R6 hal
              try rw [hw6]
              have HB6 : Hid (Below w7.heap.size w7 w6) := hB.out.trans (hal.mono hsz)
              obtain ⟨g6, hg6⟩ : ∃ g, wr.heap.size = g := ⟨_, rfl⟩
              rw [hg6] at R6
              try rw [hg6]
              have HR6 := Lib.hid R6
              clear hw6 hal hg6 R6 c0 c1 c2 hBww hB hsz
              have hdm := Nat.le_trans (Nat.le_of_eq HLL.out.symm) (List.length_eraseIdx_le S p)
              have hdm2 : d ≤ 200 := Nat.le_trans hdm (by rw [HTL.out]; exact hm2)
              clear hdm
              go_wp2_with fail
              go_loopw [21, 129] (fun vm vj wq => ∃ j : Nat, j ≤ d ∧ vm = .int .i64 ((cntS ((S.eraseIdx p).take j) k : Nat) : Int) ∧ vj = .int .i64 j ∧ Hid (Below w6.heap.size w6 wq)) (fun _ vj _ => d - (intOf vj).toNat)
              case atStart => exact ⟨0, Nat.zero_le _, by simp [cntS], rfl, Below.refl _ _⟩
              case round =>
                obtain ⟨j, hj, rfl, rfl, hBq⟩ := hrel
                have hsq := hBq.out.size
                have HB7q : Hid (Below w7.heap.size w7 wr) := HB6.out.trans (hBq.out.mono HB6.out.size)
                by_cases hjm : j < d
                · obtain ⟨x, bl, offl, hx, hab, _, c0, c1, c2, c3, c4, c5, c6, c7⟩ := (HLS7.out.step HB7q.out).get hjm
                  subst hab
                  have hac := cntS_le ((S.eraseIdx p).take j) k
                  rw [List.length_take] at hac
                  have HTK : Hid (cntS ((S.eraseIdx p).take (j + 1)) (k : Int) = cntS ((S.eraseIdx p).take j) k + (if onS (k : Int) x then 1 else 0)) := by
                    show _ = _; rw [take_snocS hx.out, cntS_snoc]
                  obtain ⟨z, hz⟩ : ∃ z, cntS ((S.eraseIdx p).take j) k = z := ⟨_, rfl⟩
                  rw [hz] at hac HTK
                  try rw [hz]
                  obtain ⟨id2, ch2, tm2, ct2, kd2, fr2, un2, pe2⟩ := x
                  simp only [onS] at c0 c1 c2 c3 c4 c5 c6 c7 HTK
                  have j1 : (0 : Int) ≤ (j : Int) := by omega
                  have j2 : (j : Int) < (d : Int) := by omega
                  go_upto_region 26 with fail
                  have R9 : Row (wr.alloc (.cells #[.int .i64 id2, .int .i64 ch2, .int .i64 tm2, .bool ct2, .int .i64 kd2, .int .i64 fr2, .int .i64 un2, .int .i64 pe2] 44)) wr.heap.size [.int .i64 id2, .int .i64 ch2, .int .i64 tm2, .bool ct2, .int .i64 kd2, .int .i64 fr2, .int .i64 un2, .int .i64 pe2] := Row.new' _ _ _ rfl
                  have hal : Below wr.heap.size wr (wr.alloc (.cells #[.int .i64 id2, .int .i64 ch2, .int .i64 tm2, .bool ct2, .int .i64 kd2, .int .i64 fr2, .int .i64 un2, .int .i64 pe2] 44)) := by (repeat' (first | (with_reducible exact Below.refl _ _) | (with_reducible assumption) | (with_reducible exact Bw.out (by with_reducible assumption)) | (with_reducible refine bw_alloc ?_ _) | (with_reducible refine bw_step ?_ (by with_reducible assumption)) | (with_reducible refine Below.alloc ?_ ?_ _) | (with_reducible refine Below.drew ?_) | (with_reducible refine below_drewN ?_ _) | (with_reducible refine Below.setCell ?_ ?_ _) | (with_reducible refine below_step ?_ (by with_reducible assumption) ?_) | (with_reducible exact Nat.le_refl _) | omega | (simp; omega) | (simp; done)))
                  obtain ⟨w9, hw9⟩ : ∃ W, wr.alloc (.cells #[.int .i64 id2, .int .i64 ch2, .int .i64 tm2, .bool ct2, .int .i64 kd2, .int .i64 fr2, .int .i64 un2, .int .i64 pe2] 44) = W := ⟨_, rfl⟩
                  rw [hw9] at R9 hal
                  try rw [hw9]
                  have HB9 : Hid (Below w6.heap.size w6 w9) := hBq.out.trans (hal.mono hsq)
                  obtain ⟨g9, hg9⟩ : ∃ g, wr.heap.size = g := ⟨_, rfl⟩
                  rw [hg9] at R9
                  try rw [hg9]
                  have q5 := R9.cell 5 rfl
                  have q6 := R9.cell 6 rfl
                  have l9 := R9.lt
                  clear hw9 hal hg9 R9 c0 c1 c2 c3 c4 c5 c6 c7 hx
                  by_cases h1 : fr2 ≤ (k : Int)
                  · by_cases h2 : (k : Int) < un2
                    · have hz2 : Hid (cntS ((S.eraseIdx p).take (j + 1)) (k : Int) = z + 1) := by
                        show _ = _; rw [HTK.out]; simp [h1, h2]
                      clear HTK
                      go_wp2_with fail
                      go_roundw
                      case rel => exact ⟨j + 1, by omega, by rw [hz2.out]; go_num, by go_num, HB9.out⟩
                      case measure => simp [intOf]; omega
                    · have hz2 : Hid (cntS ((S.eraseIdx p).take (j + 1)) (k : Int) = z) := by
                        show _ = _; rw [HTK.out]; simp [h2]
                      clear HTK
                      go_wp2_with fail
                      go_roundw
                      case rel => exact ⟨j + 1, by omega, by rw [hz2.out], by go_num, HB9.out⟩
                      case measure => simp [intOf]; omega
                  · have hz2 : Hid (cntS ((S.eraseIdx p).take (j + 1)) (k : Int) = z) := by
                      show _ = _; rw [HTK.out]; simp [h1]
                    clear HTK
                    go_wp2_with fail
                    go_roundw
                    case rel => exact ⟨j + 1, by omega, by rw [hz2.out], by go_num, HB9.out⟩
                    case measure => simp [intOf]; omega
                · obtain rfl : d = j := by omega
                  rw [List.take_of_length_le (by rw [HLL.out]; exact Nat.le_refl _)]
                  obtain ⟨ba, oa, x, e1, _, cx, hx, _, _⟩ := (HKA7.out.below HB7q.out).get hkn
                  obtain ⟨bb2, ob, y, e2, _, cy, hy, _, _⟩ := (HKB7.out.below HB7q.out).get hkn
                  cases e1
                  cases e2
                  rw [Nat.zero_add] at cx cy
                  obtain ⟨d1, d2, d3⟩ := further_law HX.out HNB.out HF2.out (show k < l.length by rw [HSL.out]; exact hkn)
                  rw [hx.out, hy.out, HRA.out] at d1
                  rw [hx.out] at d2 d3
                  have hc200 := Nat.le_trans (cntS_le (S.eraseIdx p) k) (Nat.le_trans (Nat.le_of_eq HLL.out) hdm2)
                  obtain ⟨s, hs⟩ : ∃ s, cntS (S.eraseIdx p) k = s := ⟨_, rfl⟩
                  rw [hs] at d1 hc200
                  try rw [hs]
                  simp only [] at d1
                  have RX := HR7.out.step HB7q.out
                  have RN := HR6.out.step hBq.out
                  have q5 := RX.cell 5 rfl
                  have q6 := RX.cell 6 rfl
                  have lq := RX.lt
                  have n0 := RN.cell 0 rfl
                  have ln := RN.lt
                  have HD1 := Lib.hid d1
                  have HBq := HB7q
                  have hv0 : IntKind.i64.wrap x = x := IntWalk.i64_in _ (by omega)
                  have hv1 : IntKind.i64.wrap (x + 1) = x + 1 := IntWalk.i64_in _ (by omega)
                  clear hx hy hs RX RN d1 HB6 hBq
                  by_cases h1 : fr ≤ (k : Int)
                  · by_cases h2 : (k : Int) < un
                    · by_cases h3 : rm ≤ (s : Int)
                      · obtain rfl : y = x + 1 := by rw [HD1.out]; simp [h1, h2, h3]
                        clear HD1
                        go_wp2_with fail
                        go_quiet (fail)
                        go_wp2_with fail
                        go_roundw
                        case rel => exact ⟨k + 1, by omega, rfl, by go_num, by show Below _ _ _; exact below_drewN HBq.out _⟩
                        case measure => simp [intOf]; omega
                      · obtain rfl : y = x := by rw [HD1.out]; simp [h3]
                        clear HD1
                        go_wp2_with fail
                        go_quiet (fail)
                        go_wp2_with fail
                        go_roundw
                        case rel => exact ⟨k + 1, by omega, rfl, by go_num, by show Below _ _ _; exact below_drewN HBq.out _⟩
                        case measure => simp [intOf]; omega
                    · obtain rfl : y = x := by rw [HD1.out]; simp [h2]
                      clear HD1
                      go_wp2_with fail
                      go_quiet (fail)
                      go_wp2_with fail
                      go_roundw
                      case rel => exact ⟨k + 1, by omega, rfl, by go_num, by show Below _ _ _; exact below_drewN HBq.out _⟩
                      case measure => simp [intOf]; omega
                  · obtain rfl : y = x := by rw [HD1.out]; simp [h1]
                    clear HD1
                    go_wp2_with fail
                    go_quiet (fail)
                    go_wp2_with fail
                    go_roundw
                    case rel => exact ⟨k + 1, by omega, rfl, by go_num, by show Below _ _ _; exact below_drewN HBq.out _⟩
                    case measure => simp [intOf]; omega
            · obtain rfl : n = k := by omega
              go_wp2_with fail
              go_ret
              exact ⟨rfl, hBww.out⟩


set_option maxRecDepth 100000 in
theorem sceneFurther_lifted (os : Os) (started : os.Started) (H : Type) (enc : TypeId × Value → H) :
    ReturnsInHanded {} Try.checked os 6 .any (Rows.sceneFurtherSpec.pre6 enc Try.prog Try.f6 Rows.sceneFurtherRow.domain false) (Rows.sceneFurtherSpec.post enc Try.prog Try.f6 false true false false) := by
  refine returnsInHanded_of_change (C := Try.checked) own started (by kernel_rfl) Try.func6
    (ChangeSpec.witness6 (enc := enc) (C := Try.checked) false ⟨#[], #[.slice none 0 0, .slice none 0 0, .int .u8 0], []⟩ 8 (by kernel_rfl) (by kernel_rfl) (by kernel_rfl) (by kernel_rfl)) ?_
  intro W base args ds gs before hval0 hW _ _
  have hval : ∀ (j : Nat) t v, Try.f6.params[j]? = some t → args[j]? = some v → Value.okWide Try.prog W .any base t v := hval0
  have hW' := hW
  obtain ⟨p, q, hA0, hV, rfl, hfz, hnd⟩ := hW
  obtain ⟨rfl, rfl⟩ := trodVars_none hV
  have hA : DataW.TrodAll enc Try.prog W 0 (fun _ => true) true Try.f6.params.toList args.toList ds p := hA0
  rw [Try.params6] at hA hval
  obtain ⟨v0, vs0, d0, ds0, p0, q0, hargs, rfl, rfl, h0, r0⟩ := trodAll_cons hA
  obtain ⟨v1, vs1, d1, ds1, p1, q1, rfl, rfl, rfl, h1, r1⟩ := trodAll_cons r0
  obtain ⟨v2, vs2, d2, ds2, p2, q2, rfl, rfl, rfl, h2, r2⟩ := trodAll_cons r1
  obtain ⟨rfl, rfl, rfl⟩ := trodAll_nil r2
  obtain rfl : args = #[v0, v1, v2] := by cases args; simp_all
  obtain ⟨a0_l, n0_l, c0_l, rfl⟩ := okWide_slice Try.underlying22 (hval 0 22 v0 rfl rfl)
  obtain ⟨fu_l, hf_l⟩ := h0
  obtain ⟨a_l, n_l, c_l, l_l, e_l, g1_l, g2_l, hs_l, wf_l⟩ := sln_of_nights (by simpa [Value.cells] using hf_l)
  cases e_l
  obtain ⟨a0_s, n0_s, c0_s, rfl⟩ := okWide_slice Try.underlying26 (hval 1 26 v1 rfl rfl)
  obtain ⟨fu_s, hf_s⟩ := h1
  obtain ⟨a_s, n_s, c_s, l_s, e_s, g1_s, g2_s, hs_s, wf_s⟩ := sls_of_sales (by simpa [Value.cells] using hf_s)
  cases e_s
  obtain ⟨y, rfl, rfl, rfl, wy⟩ := open_int Try.underlying5 (hval 2 5 v2 rfl rfl) h2
  clear hA0 hval0
  refine (scfurther_walk _ _ _ l_l _ _ _ l_s y wf_l wf_s wy W ⟨hs_l, g1_l, g2_l⟩ ⟨hs_s, g1_s, g2_s⟩).mono fun e W' ⟨he, hb⟩ => ?_
  subst he
  exact ⟨_, rfl, law_post (B := 4) laidOut (by rw [Try.params6]; simp only [List.mem_cons, List.not_mem_nil, or_false, forall_eq_or_imp, forall_eq]; first | exact readable_sceneFurther | (repeat' apply And.intro) <;> first | exact of_decide_eq_true (by kernel_rfl) | kernel_rfl) rfl Try.underlying4 rfl rfl hW' hb⟩

theorem sceneFurther_over : Rows.sceneFurtherRow.holds Try.pinned (OpenSpec.ofChange Rows.sceneFurtherSpec) :=
  OpenClaim.holds_of_wide 6 Try.f6 rfl rfl rfl rfl rfl rfl rfl ⟨rfl, rfl, rfl, rfl, rfl⟩ rfl rfl rfl rfl rfl (by kernel_rfl) Try.func6 (by kernel_rfl)
    (of_decide_eq_true (by kernel_rfl)) (by unfold Func.isWrapper; first | (rw [if_pos (by decide +kernel)]; kernel_rfl) | (rw [if_neg (by decide +kernel)]; exact ⟨rfl, rfl⟩))
    (fun os started H enc _ => sceneFurther_lifted os started H enc)

theorem sceneFurther_holds : Rows.SceneFurtherSaid := sceneFurther_over
#print axioms sceneFurther_holds

end Go.Proofs.Ytdijdfhlmnhcjaa
