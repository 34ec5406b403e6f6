/-
  SceneAway: if guests stay away, no night has more guests too many, and each night at most as many fewer as sales of it stay away; if all stay away, none has.
  No condition: for every input.
-/
import Derived.Test.YtdijdfhlmnhcjaaScnN
namespace Go.Proofs.Ytdijdfhlmnhcjaa
set_option linter.unusedSimpArgs false
set_option linter.unusedVariables false
open Go.ChangeShapes Go.WideShapes Go.ChangeAt Go.RowKit Go.MapKept

set_option maxRecDepth 100000 in
set_option maxHeartbeats 12800000 in
theorem scaway_walk (a : Option Addr) (n cap : Nat) (l : List NightV) (b : Option Addr) (m bcap : Nat) (S : List SaleV) (vA : Value) (A : List Int) (_ : ∀ x ∈ l, NightWf x) (hwS : ∀ x ∈ S, SaleWf x) (_ : ∀ z ∈ A, -9223372036854775808 ≤ z ∧ z ≤ 9223372036854775807) (w : World)
    (hl : SlN w a n l ∧ n ≤ cap ∧ cap ≤ maxLen) (hS : SlS w b m S ∧ m ≤ bcap ∧ bcap ≤ maxLen) (hA : SlV w vA A) :
    Calls Try.prog 5 #[.slice a n cap, .slice b m bcap, vA] w fun e w' => e = .returned (.bool true) ∧ Below w.heap.size w w' := by
  obtain ⟨hs, k1, k2⟩ := hl
  obtain ⟨ht, k3, k4⟩ := hS
  obtain ⟨c, ccap, rfl, hu, k5, k6⟩ := hA
  unfold maxLen at k2 k4 k6
  have HS := Lib.hid hs
  have HT := Lib.hid ht
  have HU := Lib.hid hu
  have HW := Lib.hid hwS
  have HSL := Lib.hid hs.1
  have HTL := Lib.hid ht.1
  clear hs ht hu hwS
  cases hR : (fewB l S A && cntB l S A) with
  | false =>
    have HR := Lib.hid hR
    clear hR
    go_enter Try.func5, Try.ntmps5
    go_wp2_with fail
    refine (s_head_any _).mono ?_
    rintro e w1 ⟨rfl, hb1⟩
    have HB1 := Lib.hid hb1
    clear hb1
    go_wp2_with fail
    refine (right25_any a n cap l b m bcap S c _ ccap A _ (by omega) (by omega) (by omega) (HS.out.below HB1.out) (HT.out.step HB1.out) (HU.out.below HB1.out) false HR.out).mono ?_
    rintro e w2 ⟨rfl, hb2⟩
    have HB2 : Hid (Below w.heap.size w w2) := HB1.out.trans (hb2.mono HB1.out.size)
    clear hb2
    go_wp2_with fail
    go_ret
    exact ⟨rfl, HB2.out⟩
  | true =>
    have HR := Lib.hid hR
    rw [Bool.and_eq_true] at hR
    obtain ⟨hF, hB⟩ := hR
    obtain ⟨_, f1, f2, f3⟩ := fewB_in hF
    have hm2 : m ≤ 200 := by have := HTL.out; omega
    have hn2 : n ≤ 400 := by have := HSL.out; omega
    have HCB := Lib.hid hB
    have HNB := Lib.hid (cntB_in hB).1
    have HCN := Lib.hid (cntB_nil hB)
    have HCI := Lib.hid (cntB_ids hB f2)
    have HF2 := Lib.hid f2
    have HF3 := Lib.hid f3
    clear hF hB f1 f2
    obtain ⟨q, hq⟩ : ∃ q, A.length = q := ⟨_, rfl⟩
    have HUL := Lib.hid hq
    rw [hq] at HU k5 f3 ⊢
    clear hq
    go_enter Try.func5, Try.ntmps5
    go_wp2_with fail
    refine (s_head_any _).mono ?_
    rintro e w1 ⟨rfl, hb1⟩
    have HB1 := Lib.hid hb1
    clear hb1
    go_wp2_with fail
    refine (right25_any a n cap l b m bcap S c q ccap A _ (by omega) (by omega) (by omega) (HS.out.below HB1.out) (HT.out.step HB1.out) (HU.out.below HB1.out) true HR.out).mono ?_
    rintro e w2 ⟨rfl, hb2⟩
    have HB2 : Hid (Below w.heap.size w w2) := HB1.out.trans (hb2.mono HB1.out.size)
    clear hb2 HB1
    go_wp2_with fail
    refine (Count_c a n cap l b m bcap S none 0 0 [] _ (HS.out.below HB2.out) (HT.out.step HB2.out) (SlI.nil _ _) HW.out HCN.out).mono ?_
    rintro e w3 ⟨ga, rfl, hka, hb3⟩
    have HKA := Lib.hid hka
    have HB3 : Hid (Below w.heap.size w w3) := HB2.out.trans (hb3.mono HB2.out.size)
    clear hb3 hka HB2
    go_wp2_with fail
    refine (Count_c a n cap l b m bcap S c q ccap A _ (HS.out.below HB3.out) (HT.out.step HB3.out) (HU.out.below HB3.out) HW.out HCB.out).mono ?_
    rintro e w4 ⟨gb, rfl, hkb, hb4⟩
    have HKB := Lib.hid hkb
    have HKA4 := Lib.hid (HKA.out.below hb4)
    have HB4 : Hid (Below w.heap.size w w4) := HB3.out.trans (hb4.mono HB3.out.size)
    clear hb4 hkb HB3 HKA
    have hmkm := @run_makeMap Try.prog
    go_wp2_with fail
    generalize hW5 : w4.alloc (.map #[] 0) = w5
    have HM0 : Hid (IMap w5 w4.heap.size []) := by show IMap _ _ _; rw [← hW5]; exact imap_made _
    have HB5 : Hid (Below w4.heap.size w4 w5) := by show Below _ _ _; rw [← hW5]; (repeat' (first | (with_reducible exact Below.refl _ _) | (with_reducible assumption) | (with_reducible exact Bw.out (by with_reducible assumption)) | (with_reducible refine bw_alloc ?_ _) | (with_reducible refine bw_step ?_ (by with_reducible assumption)) | (with_reducible refine Below.alloc ?_ ?_ _) | (with_reducible refine Below.drew ?_) | (with_reducible refine below_drewN ?_ _) | (with_reducible refine Below.setCell ?_ ?_ _) | (with_reducible refine below_step ?_ (by with_reducible assumption) ?_) | (with_reducible exact Nat.le_refl _) | omega | (simp; omega) | (simp; done)))
    clear hW5
    obtain ⟨Bm, hBm⟩ : ∃ g, w4.heap.size = g := ⟨_, rfl⟩
    rw [hBm] at HM0 HB5 ⊢
    have HBM := Lib.hid hBm
    have hBw : w.heap.size ≤ Bm := by rw [← hBm]; exact HB4.out.size
    clear hBm hmkm
    go_loopw [47] (fun vi wr => ∃ (k : Nat) (f : List (Int × Value)), k ≤ q ∧ vi = .int .i64 k ∧ Hid (SeenI f (A.take k)) ∧ Hid (IMap wr Bm f) ∧ Hid (Below Bm w4 wr)) (fun vi _ => q - (intOf vi).toNat)
    case atStart => exact ⟨0, [], Nat.zero_le _, rfl, by show SeenI _ _; simpa using SeenI.start, HM0.out, HB5.out⟩
    case round =>
      obtain ⟨k, f, hk, rfl, hF, hI, hB⟩ := hrel
      have hBw2 : Hid (Below w.heap.size w wr) := HB4.out.trans (hB.out.mono hBw)
      have hBmw : Bm < wr.heap.size := hI.out.lt
      by_cases hlt : k < q
      · obtain ⟨bc, oc, x, rfl, _, cx, hx, _, _⟩ := (HU.out.below hBw2.out).get hlt
        have i1 : (0 : Int) ≤ (k : Int) := by omega
        have i2 : (k : Int) < (q : Int) := by omega
        go_wp2_with (at_mapUpdate; refine wpList_update_imap _ rfl _ _ _ 48 (Or.inl rfl) 3 4 underlying_map Try.underlying3 Bm f rfl hI.out x (.bool true) rfl rfl ?_; intro w6 hI6 hg6; have HI6 := Lib.hid hI6; have HG6 := Lib.hid hg6; clear hI6 hg6)
        have HB6 := Lib.hid (hB.out.grown HG6.out (Nat.le_of_lt hBmw) (fun k e => by cases e; exact Nat.le_refl _))
        go_wp2_with fail
        go_roundw
        case rel => exact ⟨k + 1, _, by omega, by go_num, by show SeenI _ _; rw [take_snoc_int (by rw [HUL.out]; exact hlt), hx.out]; exact hF.out.put x, HI6.out, HB6.out⟩
        case measure => simp [intOf]; omega
      · obtain rfl : q = k := by omega
        have hFA : Hid (SeenI f A) := by
          have := hF.out
          rwa [List.take_of_length_le (by rw [HUL.out]; exact Nat.le_refl _)] at this
        obtain ⟨w6, hw6⟩ : ∃ W, W = wr := ⟨_, rfl⟩
        subst hw6
        have hB46 : Hid (Below w4.heap.size w4 w6) := by show Below _ _ _; rw [HBM.out]; exact hB.out
        have HKA6 := Lib.hid (HKA4.out.below hB46.out)
        have HKB6 := Lib.hid (HKB.out.below hB46.out)
        clear hF hB hB46 HKA4 HKB HB4 HB5 HM0 HBM
        go_wp2_with fail
        go_loopw [12, 56] (fun v vi wr => ∃ (k : Nat) (ad : Option Addr) (cp : Nat), k ≤ m ∧ v = .slice ad k cp ∧ vi = .int .i64 k ∧ Hid (OwnV wr w6.heap.size (.slice ad k cp) ((S.take k).map SaleV.id)) ∧ Hid (Below w6.heap.size w6 wr)) (fun _ vi _ => m - (intOf vi).toNat)
        case atStart => exact ⟨0, none, 0, Nat.zero_le _, rfl, rfl, by show OwnV _ _ _ _; rw [List.take_zero]; exact OwnV.nil _ _, Below.refl _ _⟩
        case round =>
          obtain ⟨k, ad, cp, hk, rfl, rfl, hO, hB⟩ := hrel
          have hBw3 : Hid (Below w.heap.size w wr) := hBw2.out.trans (hB.out.mono hBw2.out.size)
          have hsz := hB.out.size
          by_cases hlt : k < m
          · obtain ⟨x, bb, off, hx, hab, _, c0, c1, c2, c3, c4, c5, c6, c7⟩ := (HT.out.step hBw3.out).get hlt
            subst hab
            obtain ⟨id, ch, tm, ct, kd, fr, un, pe⟩ := x
            simp only [] at c0 c1 c2 c3 c4 c5 c6 c7
            have i1 : (0 : Int) ≤ (k : Int) := by omega
            have i2 : (k : Int) < (m : Int) := by omega
            go_upto_region 16 with fail
            have R6 : Row (wr.alloc (.cells #[.int .i64 id, .int .i64 ch, .int .i64 tm, .bool ct, .int .i64 kd, .int .i64 fr, .int .i64 un, .int .i64 pe] 44)) wr.heap.size [.int .i64 id, .int .i64 ch, .int .i64 tm, .bool ct, .int .i64 kd, .int .i64 fr, .int .i64 un, .int .i64 pe] := Row.new' _ _ _ rfl
            have hal : Below wr.heap.size wr (wr.alloc (.cells #[.int .i64 id, .int .i64 ch, .int .i64 tm, .bool ct, .int .i64 kd, .int .i64 fr, .int .i64 un, .int .i64 pe] 44)) := by (repeat' (first | (with_reducible exact Below.refl _ _) | (with_reducible assumption) | (with_reducible exact Bw.out (by with_reducible assumption)) | (with_reducible refine bw_alloc ?_ _) | (with_reducible refine bw_step ?_ (by with_reducible assumption)) | (with_reducible refine Below.alloc ?_ ?_ _) | (with_reducible refine Below.drew ?_) | (with_reducible refine below_drewN ?_ _) | (with_reducible refine Below.setCell ?_ ?_ _) | (with_reducible refine below_step ?_ (by with_reducible assumption) ?_) | (with_reducible exact Nat.le_refl _) | omega | (simp; omega) | (simp; done)))
            obtain ⟨w7, hw7⟩ : ∃ W, wr.alloc (.cells #[.int .i64 id, .int .i64 ch, .int .i64 tm, .bool ct, .int .i64 kd, .int .i64 fr, .int .i64 un, .int .i64 pe] 44) = W := ⟨_, rfl⟩
            rw [hw7] at R6 hal
            try rw [hw7]
            have HO7 := Lib.hid (hO.out.step hal)
            have HB7 : Hid (Below w6.heap.size w6 w7) := hB.out.trans (hal.mono hsz)
            obtain ⟨g7, hg7⟩ : ∃ g, wr.heap.size = g := ⟨_, rfl⟩
            rw [hg7] at R6
            try rw [hg7]
            have q0 := R6.cell 0 rfl
            have l7 := R6.lt
            have hsz7 := HB7.out.size
            have HLk : Hid (((S.take k).map SaleV.id).length = k) := by
              show _ = _; rw [List.length_map, List.length_take, HTL.out]; omega
            clear hw7 hal hg7 R6 c0 c1 c2 c3 c4 c5 c6 c7 hB hO
            go_wp2_with (at_builtin; refine wpList_append_int rfl _ _ _ rfl Try.underlying23 w6.heap.size _ ((S.take k).map SaleV.id) rfl (HO7.out.alloc _) w7.heap.size 1 id rfl ((Row.new' w7 [_] _ rfl).cell 0 rfl) (by rw [HLk.out]; omega) (by simp; omega) ?_; intro v8 w8 hown8 hbl8 hsz8)
            have hto := take_ids hx.out
            simp only [] at hto
            rw [← hto] at hown8
            obtain ⟨ad8, cp8, rfl⟩ := hown8.form (n := k + 1) (by rw [List.length_map, List.length_take, HTL.out]; omega)
            have HO8 := Lib.hid hown8
            have HB8 := Lib.hid (hbl8 _ (HB7.out.alloc hsz7 _))
            clear hown8 hbl8 hto
            go_wp2_with fail
            go_roundw
            case rel => exact ⟨k + 1, ad8, cp8, by omega, rfl, by go_num, HO8.out, HB8.out⟩
            case measure => simp [intOf]; omega
          · obtain rfl : m = k := by omega
            have HID : Hid (SlI wr ad m (S.map SaleV.id)) := by
              have := hO.out
              rw [List.take_of_length_le (by rw [HTL.out]; exact Nat.le_refl _)] at this
              exact this.sli (by rw [List.length_map, HTL.out])
            have HKA7 := Lib.hid (HKA6.out.below hB.out)
            have HKB7 := Lib.hid (HKB6.out.below hB.out)
            have HI7 := Lib.hid (hI.out.below hB.out)
            clear hO hI hB HKA6 HKB6 hBmw hBw
            go_wp2_with fail
            refine (Count_c a n cap l b m bcap S ad m cp (S.map SaleV.id) _ (HS.out.below hBw3.out) (HT.out.step hBw3.out) HID.out HW.out HCI.out).mono ?_
            rintro e w8 ⟨gc, rfl, hkc, hb8⟩
            have HKC := Lib.hid hkc
            have HKA8 := Lib.hid (HKA7.out.below hb8)
            have HKB8 := Lib.hid (HKB7.out.below hb8)
            have HI8 := Lib.hid (HI7.out.below hb8)
            have HB8 : Hid (Below w.heap.size w w8) := hBw3.out.trans (hb8.mono hBw3.out.size)
            clear hb8 hkc HKA7 HKB7 HI7 hBw2 hBw3 HID hsz
            go_wp2_with fail
            go_loopw [7, 106] (fun up vi wr => ∃ k : Nat, k ≤ n ∧ up = .bool true ∧ vi = .int .i64 k ∧ Hid (Below w8.heap.size w8 wr)) (fun _ vi _ => n - (intOf vi).toNat)
            case atStart => exact ⟨0, Nat.zero_le _, rfl, rfl, Below.refl _ _⟩
            case round =>
              obtain ⟨k, hk, rfl, rfl, hB⟩ := hrel
              by_cases hkn : k < n
              · have i1 : (0 : Int) ≤ (k : Int) := by omega
                have i2 : (k : Int) < (n : Int) := by omega
                go_wp2_with fail
                go_loopw [21, 111] (fun vm vj wq => ∃ j : Nat, j ≤ m ∧ vm = .int .i64 ((awayC (S.take j) A k : Nat) : Int) ∧ vj = .int .i64 j ∧ Hid (Below w8.heap.size w8 wq)) (fun _ vj _ => m - (intOf vj).toNat)
                case atStart => exact ⟨0, Nat.zero_le _, by simp [awayC], rfl, hB.out⟩
                case round =>
                  obtain ⟨j, hj, rfl, rfl, hBq⟩ := hrel
                  have hBwq : Hid (Below w.heap.size w wr) := HB8.out.trans (hBq.out.mono HB8.out.size)
                  have hsq := hBq.out.size
                  by_cases hjm : j < m
                  · obtain ⟨x, bb, off, hx, hab, _, c0, c1, c2, c3, c4, c5, c6, c7⟩ := (HT.out.step hBwq.out).get hjm
                    subst hab
                    have HTK := Lib.hid (awayC_take (A := A) (i := (k : Int)) hx.out)
                    have hac := awayC_le (S.take j) A k
                    rw [List.length_take] at hac
                    obtain ⟨z, hz⟩ : ∃ z, awayC (S.take j) A k = z := ⟨_, rfl⟩
                    rw [hz] at hac
                    have HZ := Lib.hid hz
                    rw [hz] at HTK
                    try rw [hz]
                    obtain ⟨id, ch, tm, ct, kd, fr, un, pe⟩ := x
                    simp only [onS] at c0 c1 c2 c3 c4 c5 c6 c7 HTK
                    have j1 : (0 : Int) ≤ (j : Int) := by omega
                    have j2 : (j : Int) < (m : Int) := by omega
                    go_upto_region 28 with fail
                    have R6 : Row (wr.alloc (.cells #[.int .i64 id, .int .i64 ch, .int .i64 tm, .bool ct, .int .i64 kd, .int .i64 fr, .int .i64 un, .int .i64 pe] 44)) wr.heap.size [.int .i64 id, .int .i64 ch, .int .i64 tm, .bool ct, .int .i64 kd, .int .i64 fr, .int .i64 un, .int .i64 pe] := Row.new' _ _ _ rfl
                    have hal : Below wr.heap.size wr (wr.alloc (.cells #[.int .i64 id, .int .i64 ch, .int .i64 tm, .bool ct, .int .i64 kd, .int .i64 fr, .int .i64 un, .int .i64 pe] 44)) := by (repeat' (first | (with_reducible exact Below.refl _ _) | (with_reducible assumption) | (with_reducible exact Bw.out (by with_reducible assumption)) | (with_reducible refine bw_alloc ?_ _) | (with_reducible refine bw_step ?_ (by with_reducible assumption)) | (with_reducible refine Below.alloc ?_ ?_ _) | (with_reducible refine Below.drew ?_) | (with_reducible refine below_drewN ?_ _) | (with_reducible refine Below.setCell ?_ ?_ _) | (with_reducible refine below_step ?_ (by with_reducible assumption) ?_) | (with_reducible exact Nat.le_refl _) | omega | (simp; omega) | (simp; done)))
                    obtain ⟨w9, hw9⟩ : ∃ W, wr.alloc (.cells #[.int .i64 id, .int .i64 ch, .int .i64 tm, .bool ct, .int .i64 kd, .int .i64 fr, .int .i64 un, .int .i64 pe] 44) = W := ⟨_, rfl⟩
                    rw [hw9] at R6 hal
                    try rw [hw9]
                    have HB9 : Hid (Below w8.heap.size w8 w9) := hBq.out.trans (hal.mono hsq)
                    obtain ⟨g9, hg9⟩ : ∃ g, wr.heap.size = g := ⟨_, rfl⟩
                    rw [hg9] at R6
                    try rw [hg9]
                    have q0 := R6.cell 0 rfl
                    have q5 := R6.cell 5 rfl
                    have q6 := R6.cell 6 rfl
                    have l9 := R6.lt
                    have hlk := run_seen (HI8.out.below HB9.out) hFA.out id
                    clear hw9 hal hg9 R6 c0 c1 c2 c3 c4 c5 c6 c7
                    by_cases hmem : id ∈ A
                    · rw [decide_eq_true hmem] at hlk
                      by_cases h1 : fr ≤ (k : Int)
                      · by_cases h2 : (k : Int) < un
                        · have hz2 : Hid (awayC (S.take (j + 1)) A (k : Int) = z + 1) := by
                            show _ = _; rw [HTK.out]; simp [hmem, h1, h2]
                          clear hmem hx HTK
                          go_wp2_with fail
                          go_roundw
                          case rel => exact ⟨j + 1, by omega, by rw [hz2.out]; go_num, by go_num, HB9.out⟩
                          case measure => simp [intOf]; omega
                        · have hz2 : Hid (awayC (S.take (j + 1)) A (k : Int) = z) := by
                            show _ = _; rw [HTK.out]; simp [h2]
                          clear hmem hx HTK
                          go_wp2_with fail
                          go_roundw
                          case rel => exact ⟨j + 1, by omega, by rw [hz2.out], by go_num, HB9.out⟩
                          case measure => simp [intOf]; omega
                      · have hz2 : Hid (awayC (S.take (j + 1)) A (k : Int) = z) := by
                          show _ = _; rw [HTK.out]; simp [h1]
                        clear hmem hx HTK
                        go_wp2_with fail
                        go_roundw
                        case rel => exact ⟨j + 1, by omega, by rw [hz2.out], by go_num, HB9.out⟩
                        case measure => simp [intOf]; omega
                    · rw [decide_eq_false hmem] at hlk
                      have hz2 : Hid (awayC (S.take (j + 1)) A (k : Int) = z) := by
                        show _ = _; rw [HTK.out]; simp [hmem]
                      clear hmem hx HTK
                      go_wp2_with fail
                      go_roundw
                      case rel => exact ⟨j + 1, by omega, by rw [hz2.out], by go_num, HB9.out⟩
                      case measure => simp [intOf]; omega
                  · obtain rfl : m = j := by omega
                    rw [List.take_of_length_le (by rw [HTL.out]; exact Nat.le_refl _)]
                    obtain ⟨ba, oa, x, e1, _, cx, hx, _, _⟩ := (HKA8.out.below hBq.out).get hkn
                    obtain ⟨bb2, ob, y, e2, _, cy, hy, _, _⟩ := (HKB8.out.below hBq.out).get hkn
                    obtain ⟨bc, oc, z, e3, _, cz, hz, _, _⟩ := (HKC.out.below hBq.out).get hkn
                    cases e1
                    cases e2
                    cases e3
                    rw [Nat.zero_add] at cx cy cz
                    obtain ⟨⟨y0, y1⟩, d1, z1, x1⟩ := away_law (A := A) HNB.out HF2.out (show k < l.length by rw [HSL.out]; exact hkn)
                    rw [hx.out, hy.out] at y1 d1
                    rw [hy.out] at y0
                    rw [hx.out] at x1
                    rw [hz.out] at z1
                    subst z1
                    obtain ⟨s, hs⟩ : ∃ s, awayC S A k = s := ⟨_, rfl⟩
                    rw [hs] at d1
                    try rw [hs]
                    clear hx hy hz hs
                    go_wp2_with fail
                    go_quiet (fail)
                    go_wp2_with fail
                    go_roundw
                    case rel => exact ⟨k + 1, by omega, rfl, by go_num, by show Below _ _ _; exact below_drewN hBq.out _⟩
                    case measure => simp [intOf]; omega
              · obtain rfl : n = k := by omega
                have hBf : Hid (Below w.heap.size w wr) := HB8.out.trans (hB.out.mono HB8.out.size)
                go_wp2_with fail
                go_ret
                exact ⟨rfl, hBf.out⟩


set_option maxRecDepth 100000 in
theorem sceneAway_lifted (os : Os) (started : os.Started) (H : Type) (enc : TypeId × Value → H) :
    ReturnsInHanded {} Try.checked os 5 .any (Rows.sceneAwaySpec.pre6 enc Try.prog Try.f5 Rows.sceneAwayRow.domain false) (Rows.sceneAwaySpec.post enc Try.prog Try.f5 false true false false) := by
  refine returnsInHanded_of_change (C := Try.checked) own started (by kernel_rfl) Try.func5
    (ChangeSpec.witness6 (enc := enc) (C := Try.checked) false ⟨#[], #[.slice none 0 0, .slice none 0 0, .slice none 0 0], []⟩ 8 (by kernel_rfl) (by kernel_rfl) (by kernel_rfl) (by kernel_rfl)) ?_
  intro W base args ds gs before hval0 hW _ _
  have hval : ∀ (j : Nat) t v, Try.f5.params[j]? = some t → args[j]? = some v → Value.okWide Try.prog W .any base t v := hval0
  have hW' := hW
  obtain ⟨p, q, hA0, hV, rfl, hfz, hnd⟩ := hW
  obtain ⟨rfl, rfl⟩ := trodVars_none hV
  have hA : DataW.TrodAll enc Try.prog W 0 (fun _ => true) true Try.f5.params.toList args.toList ds p := hA0
  rw [Try.params5] at hA hval
  obtain ⟨v0, vs0, d0, ds0, p0, q0, hargs, rfl, rfl, h0, r0⟩ := trodAll_cons hA
  obtain ⟨v1, vs1, d1, ds1, p1, q1, rfl, rfl, rfl, h1, r1⟩ := trodAll_cons r0
  obtain ⟨v2, vs2, d2, ds2, p2, q2, rfl, rfl, rfl, h2, r2⟩ := trodAll_cons r1
  obtain ⟨rfl, rfl, rfl⟩ := trodAll_nil r2
  obtain rfl : args = #[v0, v1, v2] := by cases args; simp_all
  obtain ⟨a0_l, n0_l, c0_l, rfl⟩ := okWide_slice Try.underlying22 (hval 0 22 v0 rfl rfl)
  obtain ⟨fu_l, hf_l⟩ := h0
  obtain ⟨a_l, n_l, c_l, l_l, e_l, g1_l, g2_l, hs_l, wf_l⟩ := sln_of_nights (by simpa [Value.cells] using hf_l)
  cases e_l
  obtain ⟨a0_s, n0_s, c0_s, rfl⟩ := okWide_slice Try.underlying26 (hval 1 26 v1 rfl rfl)
  obtain ⟨fu_s, hf_s⟩ := h1
  obtain ⟨a_s, n_s, c_s, l_s, e_s, g1_s, g2_s, hs_s, wf_s⟩ := sls_of_sales (by simpa [Value.cells] using hf_s)
  cases e_s
  obtain ⟨a_a, n_a, c_a, rfl⟩ := okWide_slice Try.underlying23 (hval 2 23 v2 rfl rfl)
  obtain ⟨fu_a, hf_a⟩ := h2
  obtain ⟨zs_a, hs_a, wf_a⟩ := slv_of_ints (by simpa [Value.cells] using hf_a)
  clear hA0 hval0
  refine (scaway_walk _ _ _ l_l _ _ _ l_s _ zs_a wf_l wf_s wf_a W ⟨hs_l, g1_l, g2_l⟩ ⟨hs_s, g1_s, g2_s⟩ hs_a).mono fun e W' ⟨he, hb⟩ => ?_
  subst he
  exact ⟨_, rfl, law_post (B := 4) laidOut (by rw [Try.params5]; simp only [List.mem_cons, List.not_mem_nil, or_false, forall_eq_or_imp, forall_eq]; first | exact readable_sceneAway | (repeat' apply And.intro) <;> first | exact of_decide_eq_true (by kernel_rfl) | kernel_rfl) rfl Try.underlying4 rfl rfl hW' hb⟩

theorem sceneAway_over : Rows.sceneAwayRow.holds Try.pinned (OpenSpec.ofChange Rows.sceneAwaySpec) :=
  OpenClaim.holds_of_wide 5 Try.f5 rfl rfl rfl rfl rfl rfl rfl ⟨rfl, rfl, rfl, rfl, rfl⟩ rfl rfl rfl rfl rfl (by kernel_rfl) Try.func5 (by kernel_rfl)
    (of_decide_eq_true (by kernel_rfl)) (by unfold Func.isWrapper; first | (rw [if_pos (by decide +kernel)]; kernel_rfl) | (rw [if_neg (by decide +kernel)]; exact ⟨rfl, rfl⟩))
    (fun os started H enc _ => sceneAway_lifted os started H enc)

theorem sceneAway_holds : Rows.SceneAwaySaid := sceneAway_over
#print axioms sceneAway_holds

end Go.Proofs.Ytdijdfhlmnhcjaa
