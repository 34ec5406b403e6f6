/-
  The reference of scene, second part: AreSales; law25's right.
-/
import Derived.Test.YtdijdfhlmnhcjaaScnK
namespace Go.Proofs.Ytdijdfhlmnhcjaa
set_option linter.unusedSimpArgs false
set_option linter.unusedVariables false
open Go.RowKit Go.MapKept

theorem saleB_ask {x : SaleV} (h : askB x.kd x.fr x.un x.pe = false) : saleB x = false := by simp [saleB, h]
theorem saleB_time {x : SaleV} (h : x.tm < 0 ∨ 1000000000 ≤ x.tm) : saleB x = false := by
  have : inR x.tm 0 999999999 = false := inR_no.2 (by omega)
  simp [saleB, this]

set_option maxRecDepth 100000 in
set_option maxHeartbeats 3200000 in
theorem R_AreSales25 (a : Option Addr) (n cap : Nat) (l : List SaleV) (w : World) (hm : n ≤ 9223372036854775807) (hs : SlS w a n l) (b : Bool) (hb : salesB l = b) :
    Calls Try.prog 38 #[.slice a n cap] w fun e w' => e = .returned (.bool b) ∧ Below w.heap.size w w' := by
  have HS := Lib.hid hs
  have HL := Lib.hid hs.1
  have HB := Lib.hid hb
  clear hs hb
  by_cases hbig : n ≤ 14000
  · have i0 : (n : Int) ≤ 14000 := by omega
    go_enter Try.func38, Try.ntmps38
    go_wp2_with fail
    go_loopw [3] (fun vi wr => ∃ k : Nat, k ≤ n ∧ vi = .int .i64 k ∧ Hid ((l.take k).all saleB = true) ∧ Hid (((l.take k).map SaleV.id).Nodup) ∧ Hid (Below w.heap.size w wr)) (fun vi _ => n - (intOf vi).toNat)
    case atStart => exact ⟨0, Nat.zero_le _, rfl, by show _ = _; simp, by show List.Nodup _; simp, Below.refl _ _⟩
    case round =>
      obtain ⟨k, hk, rfl, hA, hN, hB⟩ := hrel
      by_cases hlt : k < n
      · obtain ⟨x, bb, off, hx, rfl, _, c0, c1, c2, c3, c4, c5, c6, c7⟩ := (HS.out.step hB.out).get hlt
        obtain ⟨id, ch, tm, ct, kd, fr, un, pe⟩ := x
        simp only [] at c0 c1 c2 c3 c4 c5 c6 c7
        have i1 : (0 : Int) ≤ (k : Int) := by omega
        have i2 : (k : Int) < (n : Int) := by omega
        have hsz := hB.out.size
        go_upto_region 7 with fail
        have R4 : Row (wr.alloc (.cells #[.int .i64 id, .int .i64 ch, .int .i64 tm, .bool ct, .int .i64 kd, .int .i64 fr, .int .i64 un, .int .i64 pe] 44)) wr.heap.size [.int .i64 id, .int .i64 ch, .int .i64 tm, .bool ct, .int .i64 kd, .int .i64 fr, .int .i64 un, .int .i64 pe] := Row.new' _ _ _ rfl
        have hB4 : Below w.heap.size w (wr.alloc (.cells #[.int .i64 id, .int .i64 ch, .int .i64 tm, .bool ct, .int .i64 kd, .int .i64 fr, .int .i64 un, .int .i64 pe] 44)) := hB.out.alloc hsz _
        obtain ⟨w4, hw4⟩ : ∃ W, wr.alloc (.cells #[.int .i64 id, .int .i64 ch, .int .i64 tm, .bool ct, .int .i64 kd, .int .i64 fr, .int .i64 un, .int .i64 pe] 44) = W := ⟨_, rfl⟩
        rw [hw4] at R4 hB4
        try rw [hw4]
        obtain ⟨g4, hg4⟩ : ∃ g, wr.heap.size = g := ⟨_, rfl⟩
        rw [hg4] at R4
        try rw [hg4]
        have HB4 := Lib.hid hB4
        have HR4 := Lib.hid R4
        have q4 := R4.cell 4 rfl
        have q5 := R4.cell 5 rfl
        have q6 := R4.cell 6 rfl
        have q7 := R4.cell 7 rfl
        clear hw4 hg4 R4 hB4 c0 c1 c2 c3 c4 c5 c6 c7 hB
        go_wp2_with fail
        refine (R_Ask_any kd fr un pe _).mono ?_
        rintro e w5 ⟨rfl, hb5⟩
        have HB5 : Hid (Below w.heap.size w w5) := HB4.out.trans (hb5.mono HB4.out.size)
        have hR5 := HR4.out.step hb5
        have q0 := hR5.cell 0 rfl
        have q1 := hR5.cell 1 rfl
        have q2 := hR5.cell 2 rfl
        have q3 := hR5.lt
        clear hb5 q4 q5 q6 q7 hR5
        cases h4 : askB kd fr un pe with
        | false =>
          go_wp2_with fail
          have hbf : b = false := by rw [← HB.out]; exact salesB_bad hx.out (saleB_ask h4)
          subst hbf
          go_ret
          exact ⟨rfl, HB5.out⟩
        | true =>
          cases h1 : inR id 1 1000000 with
          | false =>
            go_wp2_with fail
            refine (R_in25 _ _ _ _ false (by assumption)).mono ?_
            rintro e w' ⟨rfl, rfl⟩
            go_wp2_with fail
            have hbf : b = false := by rw [← HB.out]; exact salesB_bad hx.out (by simp [saleB, h1])
            subst hbf
            go_ret
            exact ⟨rfl, HB5.out⟩
          | true =>
            cases h2 : inR ch 0 29 with
            | false =>
              go_wp2_with fail
              refine (R_in25 _ _ _ _ true (by assumption)).mono ?_
              rintro e w' ⟨rfl, rfl⟩
              go_wp2_with fail
              refine (R_in25 _ _ _ _ false (by assumption)).mono ?_
              rintro e w' ⟨rfl, rfl⟩
              go_wp2_with fail
              have hbf : b = false := by rw [← HB.out]; exact salesB_bad hx.out (by simp [saleB, h2])
              subst hbf
              go_ret
              exact ⟨rfl, HB5.out⟩
            | true =>
              by_cases h5 : tm < 0
              · go_wp2_with fail
                refine (R_in25 _ _ _ _ true (by assumption)).mono ?_
                rintro e w' ⟨rfl, rfl⟩
                go_wp2_with fail
                refine (R_in25 _ _ _ _ true (by assumption)).mono ?_
                rintro e w' ⟨rfl, rfl⟩
                go_wp2_with fail
                have hbf : b = false := by rw [← HB.out]; exact salesB_bad hx.out (saleB_time (Or.inl h5))
                subst hbf
                go_ret
                exact ⟨rfl, HB5.out⟩
              · by_cases h6 : 1000000000 ≤ tm
                · go_wp2_with fail
                  refine (R_in25 _ _ _ _ true (by assumption)).mono ?_
                  rintro e w' ⟨rfl, rfl⟩
                  go_wp2_with fail
                  refine (R_in25 _ _ _ _ true (by assumption)).mono ?_
                  rintro e w' ⟨rfl, rfl⟩
                  go_wp2_with fail
                  have hbf : b = false := by rw [← HB.out]; exact salesB_bad hx.out (saleB_time (Or.inr h6))
                  subst hbf
                  go_ret
                  exact ⟨rfl, HB5.out⟩
                · have HSB : Hid (saleB ⟨id, ch, tm, ct, kd, fr, un, pe⟩ = true) := by
                    show _ = _
                    have h3 : inR tm 0 999999999 = true := inR_iff.2 (by omega)
                    simp [saleB, h1, h2, h3, h4]
                  have HS5 := Lib.hid (HS.out.step HB5.out)
                  go_wp2_with fail
                  refine (R_in25 _ _ _ _ true (by assumption)).mono ?_
                  rintro e w' ⟨rfl, rfl⟩
                  go_wp2_with fail
                  refine (R_in25 _ _ _ _ true (by assumption)).mono ?_
                  rintro e w' ⟨rfl, rfl⟩
                  go_wp2_with fail
                  clear q1 q2 h1 h2 h4 h5 h6
                  go_loopw [6] (fun vj wq => ∃ j : Nat, j ≤ k ∧ vj = .int .i64 j ∧ Hid (¬ id ∈ (l.take j).map SaleV.id) ∧ Hid (∃ q, wq = w'.drewN q)) (fun vj _ => k - (intOf vj).toNat)
                  case atStart => exact ⟨0, Nat.zero_le _, rfl, by show ¬ _; simp, 0, rfl⟩
                  case round =>
                    obtain ⟨j, hj, rfl, hJ, hq⟩ := hrel
                    obtain ⟨q, hq⟩ := hq.out
                    subst hq
                    by_cases hjk : j < k
                    · obtain ⟨y, bb, off, hy, hA0, _, d0, _, _, _, _, _, _, _⟩ := HS5.out.get (show j < n by omega)
                      cases hA0
                      have j1 : (0 : Int) ≤ (j : Int) := by omega
                      have j2 : (j : Int) < (n : Int) := by omega
                      by_cases hid : y.id = id
                      · have hbf : b = false := by
                          rw [← HB.out]
                          refine salesB_two hx.out ?_
                          show id ∈ _
                          rw [← hid]
                          refine List.mem_map.2 ⟨y, ?_, rfl⟩
                          refine List.mem_of_getElem? (i := j) ?_
                          rw [List.getElem?_take_of_lt hjk]
                          exact hy.out
                        subst hbf
                        subst hid
                        go_wp2_with fail
                        go_quiet (fail)
                        go_wp2_with fail
                        go_ret
                        exact ⟨rfl, by first | exact below_drewN HB5.out _ | exact below_drewN (below_drewN HB5.out _) _⟩
                      · have hJ2 : Hid (¬ id ∈ (l.take (j + 1)).map SaleV.id) := by
                          show ¬ _
                          rw [take_ids hy.out, List.mem_append]
                          intro h
                          rcases h with h | h
                          · exact hJ.out h
                          · exact hid (by simp at h; exact h.symm)
                        have hb0 : (y.id == id) = false := by simpa using hid
                        clear hid
                        go_wp2_with fail
                        go_quiet (fail)
                        go_wp2_with fail
                        go_roundw
                        case rel => exact ⟨j + 1, by omega, by go_num, hJ2, _, by first | rfl | exact World.drewN_drewN _ _ _⟩
                        case measure => simp [intOf]; omega
                    · obtain rfl : j = k := by omega
                      go_wp2_with fail
                      go_roundw
                      case rel =>
                        refine ⟨j + 1, by omega, by go_num, ?_, ?_, by show Below _ _ _; exact below_drewN HB5.out _⟩
                        · show _ = _; rw [take_all hx.out, hA.out, HSB.out]; rfl
                        · show List.Nodup _
                          rw [take_ids hx.out, List.nodup_append]
                          exact ⟨hN.out, by simp, fun y hy z hz => by simp at hz; subst hz; intro e; subst e; exact hJ.out hy⟩
                      case measure => simp [intOf]; omega
      · obtain rfl : n = k := by omega
        have hbb : b = true := by
          rw [← HB.out]
          unfold salesB
          have h1 := hA.out
          have h2 := hN.out
          rw [List.take_of_length_le (by rw [HL.out]; exact Nat.le_refl _)] at h1 h2
          rw [h1, Bool.true_and, decide_eq_true h2, Bool.true_and, HL.out, decide_eq_true hbig]
        subst hbb
        go_wp2_with fail
        go_ret
        exact ⟨rfl, hB.out⟩
  · have i0 : 14000 < (n : Int) := by omega
    have hbf : b = false := by
      rw [← HB.out]
      unfold salesB
      rw [HL.out, decide_eq_false hbig]
      simp
    subst hbf
    go_enter Try.func38, Try.ntmps38
    go_wp2_with fail
    go_ret
    exact ⟨rfl, Below.refl _ _⟩

theorem cntB_few {l : List NightV} {S : List SaleV} {A : List Int} (h : fewB l S A = true) (h1 : nightsB l = true) (h2 : salesB S = true) : cntB l S A = !(A.any strB) := by
  unfold fewB at h
  simp only [Bool.and_eq_true, decide_eq_true_eq] at h
  unfold cntB
  rw [h1, h2, decide_eq_true (show A.length ≤ 3000 by omega)]
  simp
set_option maxRecDepth 100000 in
set_option maxHeartbeats 1600000 in
theorem right25_any (a : Option Addr) (n cap : Nat) (l : List NightV) (b : Option Addr) (m bcap : Nat) (S : List SaleV) (c : Option Addr) (q ccap : Nat) (A : List Int) (w : World)
    (hn : n ≤ 9223372036854775807) (hm : m ≤ 9223372036854775807) (hq : q ≤ 9223372036854775807) (hs : SlN w a n l) (ht : SlS w b m S) (hu : SlI w c q A) (R : Bool) (hR : (fewB l S A && cntB l S A) = R) :
    Calls Try.prog 22 #[.slice a n cap, .slice b m bcap, .slice c q ccap] w fun e w' => e = .returned (.bool R) ∧ Below w.heap.size w w' := by
  have HS := Lib.hid hs
  have HT := Lib.hid ht
  have HU := Lib.hid hu
  have LU := Lib.hid hu.1
  have HR := Lib.hid hR
  clear hs ht hu hR
  cases h1 : fewB l S A with
  | false =>
    have hbf : R = false := by rw [← HR.out]; simp [h1]
    subst hbf
    go_enter Try.func22, Try.ntmps22
    go_wp2_with fail
    refine (R_Few25 a n cap l b m bcap S c q ccap A _ hn hm hq HS.out HT.out.1 HU.out.1 _ h1).mono ?_
    rintro e w' ⟨rfl, rfl⟩
    go_wp2_with fail
    go_ret
    exact ⟨rfl, Below.refl _ _⟩
  | true =>
    go_enter Try.func22, Try.ntmps22
    go_wp2_with fail
    refine (R_Few25 a n cap l b m bcap S c q ccap A _ hn hm hq HS.out HT.out.1 HU.out.1 _ h1).mono ?_
    rintro e w' ⟨rfl, rfl⟩
    go_wp2_with fail
    refine (R_valid_any a n cap l _ hn HS.out _ rfl).mono ?_
    rintro e w1 ⟨rfl, hb1⟩
    cases h2 : nightsB l with
    | false =>
      have hbf : R = false := by rw [← HR.out]; simp [cntB, h2]
      subst hbf
      go_wp2_with fail
      go_ret
      exact ⟨rfl, hb1⟩
    | true =>
      go_wp2_with fail
      refine (R_AreSales25 b m bcap S _ hm (HT.out.step hb1) _ rfl).mono ?_
      rintro e w2 ⟨rfl, hb2⟩
      have HB2 : Hid (Below w'.heap.size w' w2) := hb1.trans (hb2.mono hb1.size)
      clear hb1 hb2
      cases h3 : salesB S with
      | false =>
        have hbf : R = false := by rw [← HR.out]; simp [cntB, h3]
        subst hbf
        go_wp2_with fail
        go_ret
        exact ⟨rfl, HB2.out⟩
      | true =>
        have HR2 : Hid (R = !(A.any strB)) := by show _ = _; rw [← HR.out, h1, Bool.true_and, cntB_few h1 h2 h3]
        have HU2 := Lib.hid (HU.out.below HB2.out)
        clear h1 h2 h3
        go_wp2_with fail
        go_loop [26] (fun vj => ∃ j : Nat, j ≤ q ∧ vj = .int .i64 j ∧ Hid ((A.take j).any strB = false)) (fun vj => q - (intOf vj).toNat)
        case atStart => exact ⟨0, Nat.zero_le _, rfl, by show _ = _; simp⟩
        case round =>
          obtain ⟨j, hj, rfl, hJ⟩ := hrel
          by_cases hjq : j < q
          · obtain ⟨b1, o1, x, e1, _, c1, g1, _, g2⟩ := HU2.out.get hjq
            subst e1
            have j1 : (0 : Int) ≤ (j : Int) := by omega
            have j2 : (j : Int) < (q : Int) := by omega
            by_cases hx : x < 1
            · have hbf : R = false := by
                rw [HR2.out, show A.any strB = true from List.any_eq_true.2 ⟨x, g2.out, by simp [strB, inR]; omega⟩]; rfl
              subst hbf
              go_wp2_with fail
              go_ret
              exact ⟨rfl, HB2.out⟩
            · by_cases hx2 : 1000000 < x
              · have hbf : R = false := by
                  rw [HR2.out, show A.any strB = true from List.any_eq_true.2 ⟨x, g2.out, by simp [strB, inR]; omega⟩]; rfl
                subst hbf
                go_wp2_with fail
                go_ret
                exact ⟨rfl, HB2.out⟩
              · have hJ2 : Hid ((A.take (j + 1)).any strB = false) := by
                  show _ = _
                  rw [any_take_succ (by rw [LU.out]; exact hjq), hJ.out, g1.out]
                  simp [strB, inR]; omega
                go_wp2_with fail
                go_round
                case rel => exact ⟨j + 1, by omega, by go_num, hJ2⟩
                case measure => simp [intOf]; omega
          · obtain rfl : j = q := by omega
            have hbf : R = true := by
              have := hJ.out
              rw [List.take_of_length_le (by rw [LU.out]; exact Nat.le_refl _)] at this
              rw [HR2.out, this]; rfl
            subst hbf
            go_wp2_with fail
            go_ret
            exact ⟨rfl, HB2.out⟩

end Go.Proofs.Ytdijdfhlmnhcjaa
