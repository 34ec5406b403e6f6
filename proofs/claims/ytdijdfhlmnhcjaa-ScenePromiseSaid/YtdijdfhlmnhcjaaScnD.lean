/-
  Package scene, fourth part: Count of what is valid.
-/
import Derived.Test.YtdijdfhlmnhcjaaScnC
namespace Go.Proofs.Ytdijdfhlmnhcjaa
set_option linter.unusedSimpArgs false
set_option linter.unusedVariables false
open Go.RowKit Go.MapKept

theorem cntB_in {l : List NightV} {S : List SaleV} {A : List Int} (h : cntB l S A = true) : nightsB l = true ∧ salesB S = true ∧ A.length ≤ 3000 ∧ A.any strB = false := by
  unfold cntB at h
  simp only [Bool.and_eq_true, decide_eq_true_eq, Bool.not_eq_true'] at h
  exact h
theorem nightsB_in {l : List NightV} (h : nightsB l = true) : l.length ≤ 366 ∧ ∀ x ∈ l, nightB x.rooms x.sold x.zs = true := by
  unfold nightsB at h
  simp only [Bool.and_eq_true, decide_eq_true_eq, List.all_eq_true] at h
  exact h
theorem nightB_nums {r s : Int} {zs : List Int} (h : nightB r s zs = true) : (0 ≤ r ∧ r ≤ 400) ∧ (0 ≤ s ∧ s ≤ 1000) := by
  unfold nightB at h
  simp only [Bool.and_eq_true, outB, Bool.not_eq_true', Bool.or_eq_false_iff, decide_eq_false_iff_not] at h
  omega
theorem take_snoc_int {A : List Int} {k : Nat} (h : k < A.length) : A.take (k + 1) = A.take k ++ [A.getD k 0] := by
  rw [List.take_succ_eq_append_getElem h]; simp [List.getD, h]
theorem cntS_le (S : List SaleV) (i : Int) : cntS S i ≤ S.length := List.length_filter_le _ _
theorem keptS_le (S : List SaleV) (A : List Int) : (keptS S A).length ≤ S.length := List.length_filter_le _ _
/-- Behind k sales; behind the nights below j of one more; behind k nights. -/
def zK (n : Nat) (S : List SaleV) (A : List Int) (k : Nat) : List Int := tabI n (fun i => (cntS (keptS (S.take k) A) i : Int))
def zJ (n : Nat) (S : List SaleV) (A : List Int) (k : Nat) (f : Int) (j : Nat) : List Int := tabI n (fun i => (cntS (keptS (S.take k) A) i : Int) + (if f ≤ (i : Int) ∧ i < j then 1 else 0))
def mxI (x : Int) : Int := if 0 < x then x else 0
def zF (n : Nat) (l : List NightV) (S : List SaleV) (A : List Int) (k : Nat) : List Int := tabI n (fun i => if i < k then mxI ((cntS (keptS S A) i : Int) - roomAt l i) else (cntS (keptS S A) i : Int))
theorem zK_zero (n : Nat) (S : List SaleV) (A : List Int) : zK n S A 0 = List.replicate n 0 := by
  unfold zK tabI
  refine List.ext_getElem (by simp) (fun i h1 h2 => by simp [keptS, cntS])
theorem zK_out {n : Nat} {S : List SaleV} {A : List Int} {k : Nat} {x : SaleV} (h : S[k]? = some x) (hm : x.id ∈ A) : zK n S A (k + 1) = zK n S A k := by
  unfold zK
  rw [keptS_take h, if_pos hm, List.append_nil]
theorem zJ_start {n : Nat} {S : List SaleV} {A : List Int} {k j : Nat} {f : Int} (hj : f = j) : zJ n S A k f j = zK n S A k := by
  unfold zJ zK
  exact tabI_ext (fun i _ => by rw [if_neg (by omega), Int.add_zero])
theorem zJ_step {n : Nat} {S : List SaleV} {A : List Int} {k j : Nat} {f : Int} (hj : f ≤ j) (hn : j < n) : (zJ n S A k f j).set j ((zJ n S A k f j).getD j 0 + 1) = zJ n S A k f (j + 1) := by
  unfold zJ
  rw [tabI_getD hn, tabI_set]
  refine tabI_ext (fun i hi => ?_)
  by_cases e : i = j
  · subst e
    rw [if_pos rfl, if_neg (by omega), if_pos (by omega)]; omega
  · rw [if_neg e]
    by_cases h2 : f ≤ (i : Int) ∧ i < j
    · rw [if_pos h2, if_pos (by omega)]
    · rw [if_neg h2, if_neg (by omega)]
theorem zJ_end {n : Nat} {S : List SaleV} {A : List Int} {k j : Nat} {x : SaleV} (h : S[k]? = some x) (hm : x.id ∉ A) (h1 : x.fr ≤ j) (h2 : ¬ ((j : Int) < x.un ∧ j < n)) (h3 : (j : Int) ≤ x.un ∨ x.fr = j) (h4 : x.fr < x.un) : zJ n S A k x.fr j = zK n S A (k + 1) := by
  unfold zJ zK
  refine tabI_ext (fun i hi => ?_)
  rw [keptS_take h, if_neg hm, cntS_snoc]
  unfold onS
  by_cases g1 : x.fr ≤ (i : Int)
  · by_cases g2 : i < j
    · rw [if_pos ⟨g1, g2⟩]
      rw [show (decide (x.fr ≤ (i : Int)) && decide ((i : Int) < x.un)) = true by simp; omega]
      simp
    · rw [if_neg (by omega)]
      rw [show (decide (x.fr ≤ (i : Int)) && decide ((i : Int) < x.un)) = false by simp; omega]
      simp
  · rw [if_neg (by omega)]
    rw [show (decide (x.fr ≤ (i : Int)) && decide ((i : Int) < x.un)) = false by simp; omega]
    simp
theorem zF_start {n : Nat} {l : List NightV} {S : List SaleV} {A : List Int} {m : Nat} (hm : S.length = m) : zK n S A m = zF n l S A 0 := by
  unfold zK zF
  rw [List.take_of_length_le (by omega)]
  exact tabI_ext (fun i _ => by rw [if_neg (Nat.not_lt_zero _)])
theorem zF_step {n : Nat} {l : List NightV} {S : List SaleV} {A : List Int} {k : Nat} : (zF n l S A k).set k (mxI ((cntS (keptS S A) k : Int) - roomAt l k)) = zF n l S A (k + 1) := by
  unfold zF
  rw [tabI_set]
  refine tabI_ext (fun i hi => ?_)
  by_cases e : i = k
  · subst e; rw [if_pos rfl, if_pos (by omega)]
  · rw [if_neg e]
    by_cases h2 : i < k
    · rw [if_pos h2, if_pos (by omega)]
    · rw [if_neg h2, if_neg (by omega)]
theorem zF_end {n : Nat} {l : List NightV} {S : List SaleV} {A : List Int} (hn : l.length = n) : zF n l S A n = cntL l S A := by
  subst hn
  unfold zF cntL
  exact tabI_ext (fun i hi => by rw [if_pos hi]; rfl)
theorem roomAt_get {l : List NightV} {i : Nat} {x : NightV} (h : l[i]? = some x) : roomAt l i = x.rooms := by unfold roomAt; rw [h]; rfl

set_option maxRecDepth 100000 in
set_option maxHeartbeats 6400000 in
theorem Count_ok (a : Option Addr) (n cap : Nat) (l : List NightV) (b : Option Addr) (m bcap : Nat) (S : List SaleV) (c : Option Addr) (q ccap : Nat) (A : List Int) (w : World)
    (hs : SlN w a n l) (ht : SlS w b m S) (hu : SlI w c q A) (hwf : ∀ x ∈ S, -9223372036854775808 ≤ x.fr ∧ x.fr ≤ 9223372036854775807) (hB : cntB l S A = true) :
    Calls Try.prog 18 #[.slice a n cap, .slice b m bcap, .slice c q ccap] w fun e w' => ∃ g, e = .returned (.tuple #[.slice (some ⟨g, 0, none⟩) n n, .int .i64 0]) ∧ OwnV w' w.heap.size (.slice (some ⟨g, 0, none⟩) n n) (cntL l S A) ∧ Below w.heap.size w w' := by
  obtain ⟨h1, h2, h3, h4⟩ := cntB_in hB
  have hn : n ≤ 366 := by have := (nightsB_in h1).1; have := hs.1; omega
  have hm : m ≤ 14000 := by have := (salesB_in h2).2.2; have := ht.1; omega
  have hq : q ≤ 3000 := by have := hu.1; omega
  have HS := Lib.hid hs
  have HT := Lib.hid ht
  have HU := Lib.hid hu
  have HL := Lib.hid hs.1
  have HTL := Lib.hid ht.1
  have HUL := Lib.hid hu.1
  have HW := Lib.hid hwf
  have H1 := Lib.hid h1
  have H2 := Lib.hid h2
  obtain ⟨i0, hi, hz0, hz1, hz2⟩ := info_parts info_int
  have HI := Lib.hid (And.intro hi (And.intro hz0 (And.intro hz1 hz2)))
  clear hs ht hu hwf hB h1 h2 h3 hi hz0 hz1 hz2
  go_enter Try.func18, Try.ntmps18
  go_wp2_with fail
  refine (share_valid_any a n cap l _ (by omega) HS.out).mono ?_
  rintro e w1 ⟨rfl, hb1⟩
  have HB1 := Lib.hid hb1
  rw [H1.out]
  clear hb1
  go_wp2_with fail
  refine (areSales_any b m bcap S _ (by omega) (HT.out.step HB1.out) HW.out true H2.out).mono ?_
  rintro e w2 ⟨rfl, hb2⟩
  have HB2 : Hid (Below w.heap.size w w2) := HB1.out.trans (hb2.mono HB1.out.size)
  clear hb2
  have hq2 : ¬ (3000 : Int) < (q : Int) := by omega
  go_wp2_with fail
  refine (contains_strange c q ccap A _ (by omega) (HU.out.below HB2.out) false h4).mono ?_
  rintro e w' ⟨rfl, rfl⟩
  have hmkm := @run_makeMap Try.prog
  clear h4 hq2 HB1
  go_wp2_with fail
  obtain ⟨w2, hw2'⟩ : ∃ W, W = w' := ⟨_, rfl⟩
  subst hw2'
  generalize hW3 : w2.alloc (.map #[] 0) = w3
  have HM0 : Hid (IMap w3 w2.heap.size []) := by show IMap _ _ _; rw [← hW3]; exact imap_made _
  have HB3 : Hid (Below w2.heap.size w2 w3) := by show Below _ _ _; rw [← hW3]; (repeat' (first | (with_reducible exact Below.refl _ _) | (with_reducible assumption) | (with_reducible exact Bw.out (by with_reducible assumption)) | (with_reducible refine bw_alloc ?_ _) | (with_reducible refine bw_step ?_ (by with_reducible assumption)) | (with_reducible refine Below.alloc ?_ ?_ _) | (with_reducible refine Below.drew ?_) | (with_reducible refine below_drewN ?_ _) | (with_reducible refine Below.setCell ?_ ?_ _) | (with_reducible refine below_step ?_ (by with_reducible assumption) ?_) | (with_reducible exact Nat.le_refl _) | omega | (simp; omega) | (simp; done)))
  clear hW3
  obtain ⟨Bm, hBm⟩ : ∃ g, w2.heap.size = g := ⟨_, rfl⟩
  rw [hBm] at HM0 HB3 ⊢
  have hBw : w.heap.size ≤ Bm := by rw [← hBm]; exact HB2.out.size
  have HG2 := Lib.hid hBm
  clear hBm
  go_loopw [39] (fun vi wr => ∃ (k : Nat) (f : List (Int × Value)), k ≤ q ∧ vi = .int .i64 k ∧ Hid (SeenI f (A.take k)) ∧ Hid (IMap wr Bm f) ∧ Hid (Below Bm w2 wr)) (fun vi _ => q - (intOf vi).toNat)
  case atStart => exact ⟨0, [], Nat.zero_le _, rfl, by show SeenI _ _; simpa using SeenI.start, HM0.out, HB3.out⟩
  case round =>
    obtain ⟨k, f, hk, rfl, hF, hI, hB⟩ := hrel
    have hBw2 : Hid (Below w.heap.size w wr) := HB2.out.trans (hB.out.mono hBw)
    have hBmw : Bm < wr.heap.size := hI.out.lt
    by_cases hlt : k < q
    · obtain ⟨bc, oc, x, rfl, _, cx, hx, _, _⟩ := (HU.out.below hBw2.out).get hlt
      have i1 : (0 : Int) ≤ (k : Int) := by omega
      have i2 : (k : Int) < (q : Int) := by omega
      go_wp2_with (at_mapUpdate; refine wpList_update_imap _ rfl _ _ _ 48 (Or.inl rfl) 3 4 underlying_map Try.underlying3 Bm f rfl hI.out x (.bool true) rfl rfl ?_; intro w6 hI6 hg6; have HI6 := Lib.hid hI6; have HG6 := Lib.hid hg6; clear hI6 hg6)
      have HB6 := Lib.hid (hB.out.grown HG6.out (Nat.le_of_lt hBmw) (fun k e => by cases e; exact Nat.le_refl _))
      go_wp2_with fail
      go_roundw
      case rel => exact ⟨k + 1, _, by omega, by go_num, by show SeenI _ _; rw [take_snoc_int (by rw [HUL.out]; exact hlt), hx.out]; exact hF.out.put x, HI6.out, HB6.out⟩
      case measure => simp [intOf]; omega
    · obtain rfl : q = k := by omega
      have hFA : Hid (SeenI f A) := by
        have := hF.out
        rwa [List.take_of_length_le (by rw [HUL.out]; exact Nat.le_refl _)] at this
      clear hF
      go_upto_region 11 with (refine wpList_make_row _ rfl _ _ 23 rfl 3 i0 (.int .i64 0) Try.underlying23 HI.out.1 HI.out.2.1 HI.out.2.2.1 rfl .i64 .i64 n rfl rfl (by rw [HI.out.2.2.2]; omega) (by omega) ?_)
      have hV3 := OwnV.zeros wr (n := n) (by unfold maxLen; omega)
      have hb3 : Below wr.heap.size wr (wr.alloc (.cells (madeCells #[.int .i64 0] n) 3)) := by (repeat' (first | (with_reducible exact Below.refl _ _) | (with_reducible assumption) | (with_reducible exact Bw.out (by with_reducible assumption)) | (with_reducible refine bw_alloc ?_ _) | (with_reducible refine bw_step ?_ (by with_reducible assumption)) | (with_reducible refine Below.alloc ?_ ?_ _) | (with_reducible refine Below.drew ?_) | (with_reducible refine below_drewN ?_ _) | (with_reducible refine Below.setCell ?_ ?_ _) | (with_reducible refine below_step ?_ (by with_reducible assumption) ?_) | (with_reducible exact Nat.le_refl _) | omega | (simp; omega) | (simp; done)))
      obtain ⟨w5, hw5⟩ : ∃ W, wr.alloc (.cells (madeCells #[.int .i64 0] n) 3) = W := ⟨_, rfl⟩
      rw [hw5] at hV3 hb3
      try rw [hw5]
      obtain ⟨go', hgo'⟩ : ∃ g, wr.heap.size = g := ⟨_, rfl⟩
      rw [hgo'] at hV3 hb3 hBmw
      try rw [hgo']
      have HV3 := Lib.hid hV3
      have HB5 := Lib.hid hb3
      have HGO := Lib.hid hgo'
      have hwg : w.heap.size ≤ go' := by omega
      obtain ⟨w4, hw4⟩ : ∃ W, W = wr := ⟨_, rfl⟩
      subst hw4
      clear hV3 hb3 hw5 hgo' hB
      go_wp2_with fail
      go_loopw [51] (fun vi wr => ∃ k : Nat, k ≤ m ∧ vi = .int .i64 k ∧ Hid (OwnV wr go' (.slice (some ⟨go', 0, none⟩) n n) (zK n S A k)) ∧ Hid (Below go' w4 wr)) (fun vi _ => m - (intOf vi).toNat)
      case atStart => exact ⟨0, Nat.zero_le _, rfl, by show OwnV _ _ _ _; rw [zK_zero]; exact HV3.out, HB5.out⟩
      case round =>
        obtain ⟨k, hk, rfl, hO, hB⟩ := hrel
        have hB4 : Hid (Below w4.heap.size w4 wr) := by show Below _ _ _; rw [HGO.out]; exact hB.out
        have hBww : Hid (Below w.heap.size w wr) := hBw2.out.trans (hB.out.mono hwg)
        have hgw : go' < wr.heap.size := hO.out.ownI.lt
        by_cases hlt : k < m
        · obtain ⟨x, bb, off, hx, rfl, _, c0, c1, c2, c3, c4, c5, c6, c7⟩ := (HT.out.step hBww.out).get hlt
          have hsb := (saleB_in ((salesB_in H2.out).1 _ (List.mem_of_getElem? hx.out))).2.2.2
          have hsk := askB_in hsb
          obtain ⟨id, ch, tm, ct, kd, fr, un, pe⟩ := x
          simp only [] at c0 c1 c2 c3 c4 c5 c6 c7 hsk
          obtain ⟨_, ⟨f0, f1⟩, ⟨u0, u1, _⟩, _⟩ := hsk
          have i1 : (0 : Int) ≤ (k : Int) := by omega
          have i2 : (k : Int) < (m : Int) := by omega
          clear hsb
          go_upto_region 14 with fail
          have R6 : Row (wr.alloc (.cells #[.int .i64 id, .int .i64 ch, .int .i64 tm, .bool ct, .int .i64 kd, .int .i64 fr, .int .i64 un, .int .i64 pe] 44)) wr.heap.size [.int .i64 id, .int .i64 ch, .int .i64 tm, .bool ct, .int .i64 kd, .int .i64 fr, .int .i64 un, .int .i64 pe] := Row.new' _ _ _ rfl
          have hal : Below wr.heap.size wr (wr.alloc (.cells #[.int .i64 id, .int .i64 ch, .int .i64 tm, .bool ct, .int .i64 kd, .int .i64 fr, .int .i64 un, .int .i64 pe] 44)) := by (repeat' (first | (with_reducible exact Below.refl _ _) | (with_reducible assumption) | (with_reducible exact Bw.out (by with_reducible assumption)) | (with_reducible refine bw_alloc ?_ _) | (with_reducible refine bw_step ?_ (by with_reducible assumption)) | (with_reducible refine Below.alloc ?_ ?_ _) | (with_reducible refine Below.drew ?_) | (with_reducible refine below_drewN ?_ _) | (with_reducible refine Below.setCell ?_ ?_ _) | (with_reducible refine below_step ?_ (by with_reducible assumption) ?_) | (with_reducible exact Nat.le_refl _) | omega | (simp; omega) | (simp; done)))
          obtain ⟨w6, hw6⟩ : ∃ W, wr.alloc (.cells #[.int .i64 id, .int .i64 ch, .int .i64 tm, .bool ct, .int .i64 kd, .int .i64 fr, .int .i64 un, .int .i64 pe] 44) = W := ⟨_, rfl⟩
          rw [hw6] at R6 hal
          try rw [hw6]
          have HO6 := Lib.hid (hO.out.step hal)
          have HB6 : Hid (Below go' w4 w6) := hB.out.trans (hal.mono (Nat.le_of_lt hgw))
          have hI6 : IMap w6 Bm f := (hI.out.below hB4.out).below hal
          obtain ⟨g6, hg6⟩ : ∃ g, wr.heap.size = g := ⟨_, rfl⟩
          rw [hg6] at R6 hgw
          try rw [hg6]
          have hlk := run_seen hI6 hFA.out id
          have HR6 := Lib.hid R6
          have q0 := R6.cell 0 rfl
          have q5 := R6.cell 5 rfl
          have q6 := R6.cell 6 rfl
          have lg6 := R6.lt
          clear hw6 R6 hal hI6 hg6 c0 c1 c2 c3 c4 c5 c6 c7 hB hO hB4 hBww
          by_cases hmem : id ∈ A
          · rw [decide_eq_true hmem] at hlk
            have HZ := Lib.hid (zK_out (n := n) hx.out hmem)
            clear hmem
            go_wp2_with fail
            go_roundw
            case rel => exact ⟨k + 1, by omega, by go_num, by show OwnV _ _ _ _; rw [HZ.out]; exact HO6.out, HB6.out⟩
            case measure => simp [intOf]; omega
          · have HNM : Hid (¬ id ∈ A) := hmem
            rw [decide_eq_false hmem] at hlk
            clear hmem
            obtain ⟨j0, rfl⟩ := Int.eq_ofNat_of_zero_le f0
            go_wp2_with fail
            go_loopw [15] (fun vj wq => ∃ j : Nat, j0 ≤ j ∧ (j : Int) ≤ un ∧ vj = .int .i64 j ∧ Hid (OwnV wq go' (.slice (some ⟨go', 0, none⟩) n n) (zJ n S A k (j0 : Int) j)) ∧ Hid (Row wq g6 [.int .i64 id, .int .i64 ch, .int .i64 tm, .bool ct, .int .i64 kd, .int .i64 (j0 : Int), .int .i64 un, .int .i64 pe]) ∧ Hid (Below go' w4 wq)) (fun vj _ => un.toNat - (intOf vj).toNat)
            case atStart => exact ⟨j0, Nat.le_refl _, by omega, rfl, by show OwnV _ _ _ _; rw [zJ_start rfl]; exact HO6.out, HR6.out, HB6.out⟩
            case round =>
              obtain ⟨j, hj0, hju, rfl, hOj, hRj, hBj⟩ := hrel
              have qq6 := hRj.out.cell 6 rfl
              have lq6 := hRj.out.lt
              have j1 : (0 : Int) ≤ (j : Int) := by omega
              clear q0 q5 q6 hlk
              by_cases hmn : un < (n : Int)
              · by_cases hjl : (j : Int) < un
                · have hjn : j < n := by omega
                  have j2 : (j : Int) < (n : Int) := by omega
                  have hjl2 : j < (zJ n S A k (j0 : Int) j).length := by unfold zJ; rw [tabI_length]; exact hjn
                  have cz := hOj.out.ownI.cell hjl2
                  have zz := hOj.out.ownI.frozen j
                  have lz := hOj.out.ownI.lt
                  obtain ⟨z, hz⟩ : ∃ z, (zJ n S A k (j0 : Int) j).getD j 0 = z := ⟨_, rfl⟩
                  rw [hz] at cz
                  have hzb : 0 ≤ z ∧ z ≤ 14001 := by
                    rw [← hz]
                    unfold zJ
                    rw [tabI_getD hjn]
                    have h1 : cntS (keptS (S.take k) A) (j : Int) ≤ 14000 := Nat.le_trans (cntS_le _ _) (Nat.le_trans (keptS_le _ _) (by rw [List.length_take, HTL.out]; omega))
                    split <;> omega
                  obtain ⟨z0, z1⟩ := hzb
                  have hst := zJ_step (n := n) (S := S) (A := A) (k := k) (f := (j0 : Int)) (j := j) (by omega) hjn
                  rw [hz] at hst
                  have HS6 := Lib.hid (hOj.out.setC hjl2 (z + 1))
                  rw [hst] at HS6
                  have HR7 := Lib.hid (hRj.out.other (a := ⟨go', j, none⟩) (show g6 ≠ go' by omega) (.int .i64 (z + 1)))
                  have HB7 := Lib.hid (Below.setCell hBj.out (show go' ≤ (⟨go', j, none⟩ : Addr).block from Nat.le_refl _) (.int .i64 (z + 1)))
                  clear hz hst hjl2
                  go_wp2_with fail
                  go_roundw
                  case rel => exact ⟨j + 1, by omega, by omega, by go_num, HS6.out, HR7.out, HB7.out⟩
                  case measure => simp [intOf]; omega
                · have hjn2 : ¬ ((j : Int) < un ∧ j < n) := fun h => hjl h.1
                  have hend := zJ_end (n := n) (j := j) hx.out HNM.out (show (j0 : Int) ≤ (j : Int) by omega) hjn2 (Or.inl hju) u0
                  have HE := Lib.hid hend
                  clear hend
                  go_wp2_with fail
                  first
                  | (refine ⟨⟨k + 1, by omega, by go_num, by show OwnV _ _ _ _; rw [← HE.out]; exact hOj.out, hBj.out⟩, ?_⟩; simp [intOf]; omega)
                  | (go_roundw
                     case rel => exact ⟨k + 1, by omega, by go_num, by show OwnV _ _ _ _; rw [← HE.out]; exact hOj.out, hBj.out⟩
                     case measure => simp [intOf]; omega)
              · by_cases hjn : j < n
                · have j2 : (j : Int) < (n : Int) := by omega
                  have hjl2 : j < (zJ n S A k (j0 : Int) j).length := by unfold zJ; rw [tabI_length]; exact hjn
                  have cz := hOj.out.ownI.cell hjl2
                  have zz := hOj.out.ownI.frozen j
                  have lz := hOj.out.ownI.lt
                  obtain ⟨z, hz⟩ : ∃ z, (zJ n S A k (j0 : Int) j).getD j 0 = z := ⟨_, rfl⟩
                  rw [hz] at cz
                  have hzb : 0 ≤ z ∧ z ≤ 14001 := by
                    rw [← hz]
                    unfold zJ
                    rw [tabI_getD hjn]
                    have h1 : cntS (keptS (S.take k) A) (j : Int) ≤ 14000 := Nat.le_trans (cntS_le _ _) (Nat.le_trans (keptS_le _ _) (by rw [List.length_take, HTL.out]; omega))
                    split <;> omega
                  obtain ⟨z0, z1⟩ := hzb
                  have hst := zJ_step (n := n) (S := S) (A := A) (k := k) (f := (j0 : Int)) (j := j) (by omega) hjn
                  rw [hz] at hst
                  have HS6 := Lib.hid (hOj.out.setC hjl2 (z + 1))
                  rw [hst] at HS6
                  have HR7 := Lib.hid (hRj.out.other (a := ⟨go', j, none⟩) (show g6 ≠ go' by omega) (.int .i64 (z + 1)))
                  have HB7 := Lib.hid (Below.setCell hBj.out (show go' ≤ (⟨go', j, none⟩ : Addr).block from Nat.le_refl _) (.int .i64 (z + 1)))
                  clear hz hst hjl2
                  go_wp2_with fail
                  go_roundw
                  case rel => exact ⟨j + 1, by omega, by omega, by go_num, HS6.out, HR7.out, HB7.out⟩
                  case measure => simp [intOf]; omega
                · have j2 : ¬ (j : Int) < (n : Int) := by omega
                  have hjn2 : ¬ ((j : Int) < un ∧ j < n) := fun h => hjn h.2
                  have hend := zJ_end (n := n) (j := j) hx.out HNM.out (show (j0 : Int) ≤ (j : Int) by omega) hjn2 (Or.inl hju) u0
                  have HE := Lib.hid hend
                  clear hend
                  go_wp2_with fail
                  first
                  | (refine ⟨⟨k + 1, by omega, by go_num, by show OwnV _ _ _ _; rw [← HE.out]; exact hOj.out, hBj.out⟩, ?_⟩; simp [intOf]; omega)
                  | (go_roundw
                     case rel => exact ⟨k + 1, by omega, by go_num, by show OwnV _ _ _ _; rw [← HE.out]; exact hOj.out, hBj.out⟩
                     case measure => simp [intOf]; omega)
        · obtain rfl : m = k := by omega
          have HOF : Hid (OwnV wr go' (.slice (some ⟨go', 0, none⟩) n n) (zF n l S A 0)) := by
            show OwnV _ _ _ _
            rw [← zF_start HTL.out]; exact hO.out
          have hB5 : Hid (Below go' w4 wr) := hB
          clear hO hB hB4 hBww hgw
          go_wp2_with fail
          go_loopw [81] (fun vi wr => ∃ k : Nat, k ≤ n ∧ vi = .int .i64 k ∧ Hid (OwnV wr go' (.slice (some ⟨go', 0, none⟩) n n) (zF n l S A k)) ∧ Hid (Below go' w4 wr)) (fun vi _ => n - (intOf vi).toNat)
          case atStart => exact ⟨0, Nat.zero_le _, rfl, HOF.out, hB5.out⟩
          case round =>
            obtain ⟨k, hk, rfl, hO, hB⟩ := hrel
            have hBww : Hid (Below w.heap.size w wr) := hBw2.out.trans (hB.out.mono hwg)
            have hgw : go' < wr.heap.size := hO.out.ownI.lt
            by_cases hlt : k < n
            · obtain ⟨x, bb, off, hx, _, hin, rfl, _, c0, c1, c2⟩ := (HS.out.below hBww.out).get hlt
              have hrm := nightB_nums ((nightsB_in H1.out).2 _ (List.mem_of_getElem? hx))
              have HRA := Lib.hid (roomAt_get hx)
              obtain ⟨rm, sd, sa, sn, sc, sz⟩ := x
              simp only [] at c0 c1 c2 hrm
              obtain ⟨⟨r0, r1⟩, _⟩ := hrm
              have i1 : (0 : Int) ≤ (k : Int) := by omega
              have i2 : (k : Int) < (n : Int) := by omega
              clear hx hin
              go_upto_region 23 with fail
              have R6 : Row (wr.alloc (.cells #[.int .i64 rm, .int .i64 sd, .slice sa sn sc] 46)) wr.heap.size [.int .i64 rm, .int .i64 sd, .slice sa sn sc] := Row.new' _ _ _ rfl
              have hal : Below wr.heap.size wr (wr.alloc (.cells #[.int .i64 rm, .int .i64 sd, .slice sa sn sc] 46)) := by (repeat' (first | (with_reducible exact Below.refl _ _) | (with_reducible assumption) | (with_reducible exact Bw.out (by with_reducible assumption)) | (with_reducible refine bw_alloc ?_ _) | (with_reducible refine bw_step ?_ (by with_reducible assumption)) | (with_reducible refine Below.alloc ?_ ?_ _) | (with_reducible refine Below.drew ?_) | (with_reducible refine below_drewN ?_ _) | (with_reducible refine Below.setCell ?_ ?_ _) | (with_reducible refine below_step ?_ (by with_reducible assumption) ?_) | (with_reducible exact Nat.le_refl _) | omega | (simp; omega) | (simp; done)))
              obtain ⟨w6, hw6⟩ : ∃ W, wr.alloc (.cells #[.int .i64 rm, .int .i64 sd, .slice sa sn sc] 46) = W := ⟨_, rfl⟩
              rw [hw6] at R6 hal
              try rw [hw6]
              have HO6 := Lib.hid (hO.out.step hal)
              have HB6 : Hid (Below go' w4 w6) := hB.out.trans (hal.mono (Nat.le_of_lt hgw))
              obtain ⟨g6, hg6⟩ : ∃ g, wr.heap.size = g := ⟨_, rfl⟩
              rw [hg6] at R6 hgw
              try rw [hg6]
              have hkl : k < (zF n l S A k).length := by unfold zF; rw [tabI_length]; exact hlt
              have czz := HO6.out.ownI.cell hkl
              have hzz : (zF n l S A k).getD k 0 = (cntS (keptS S A) k : Int) := by
                unfold zF; rw [tabI_getD hlt, if_neg (Nat.lt_irrefl _)]
              have hzb : cntS (keptS S A) k ≤ 14000 := Nat.le_trans (cntS_le _ _) (Nat.le_trans (keptS_le _ _) (by rw [HTL.out]; exact hm))
              obtain ⟨z, hz⟩ : ∃ z : Nat, cntS (keptS S A) (k : Int) = z := ⟨_, rfl⟩
              rw [hzz, hz] at czz
              rw [hz] at hzb
              have hdf : roomAt l k = rm := HRA.out
              have hW : IntKind.i64.wrap ((z : Int) - rm) = (z : Int) - rm := IntWalk.i64_in _ (by omega)
              have hst := zF_step (n := n) (l := l) (S := S) (A := A) (k := k)
              rw [hdf, hz] at hst
              have HST := Lib.hid hst
              have HKL := Lib.hid hkl
              have zg := HO6.out.ownI.frozen k
              have lgo := HO6.out.ownI.lt
              have qr := R6.cell 0 rfl
              clear hw6 hal hg6 c0 c1 c2 hB hO hBww hkl hzz hdf hst
              by_cases hmx : 0 < (z : Int) - rm
              ·
                have HS7 := Lib.hid (HO6.out.setC HKL.out ((z : Int) - rm))
                have hst2 := HST.out
                unfold mxI at hst2
                rw [if_pos hmx] at hst2
                rw [hst2] at HS7
                have HB7 := Lib.hid (Below.setCell HB6.out (show go' ≤ (⟨go', k, none⟩ : Addr).block from Nat.le_refl _) (.int .i64 ((z : Int) - rm)))
                clear hst2 HST
                refine AnyJ.beginP (fun w' : World => w'.cell? ⟨go', k, none⟩ = some (.int .i64 z) ∧ w'.cell? ⟨g6, 0, none⟩ = some (.int .i64 rm)) (fun i => decide (i ≤ 10)) (by kernel_rfl) ⟨czz, qr⟩ (fun hS => ?_)
                refine AnyJ.takeD (i := 0) (d := some 86) (v := ?_) rfl (by kernel_rfl) (by kernel_rfl) (by kernel_rfl) (by kernel_rfl) (by kernel_rfl) (fun _ _ _ h => h) (Or.inl ⟨by kernel_rfl, ?_⟩) hS ?_
                rotate_left
                · intro w' hS
                  obtain ⟨sF0, sF1⟩ := hS
                  go_simp
                  try with_reducible rfl
                refine AnyJ.takeD (i := 1) (d := some 87) (v := ?_) rfl (by kernel_rfl) (by kernel_rfl) (by kernel_rfl) (by kernel_rfl) (by kernel_rfl) (fun _ _ _ h => h) (Or.inl ⟨by kernel_rfl, ?_⟩) hS ?_
                rotate_left
                · intro w' hS
                  obtain ⟨sF0, sF1⟩ := hS
                  go_simp
                  try with_reducible rfl
                refine AnyJ.takeD (i := 2) (d := some 88) (v := ?_) rfl (by kernel_rfl) (by kernel_rfl) (by kernel_rfl) (by kernel_rfl) (by kernel_rfl) (fun _ _ _ h => h) (Or.inl ⟨by kernel_rfl, ?_⟩) hS ?_
                rotate_left
                · intro w' hS
                  obtain ⟨sF0, sF1⟩ := hS
                  go_simp
                  try with_reducible rfl
                refine AnyJ.takeD (i := 3) (d := some 89) (v := ?_) rfl (by kernel_rfl) (by kernel_rfl) (by kernel_rfl) (by kernel_rfl) (by kernel_rfl) (fun _ _ _ h => h) (Or.inl ⟨by kernel_rfl, ?_⟩) hS ?_
                rotate_left
                · intro w' hS
                  obtain ⟨sF0, sF1⟩ := hS
                  go_simp
                  try with_reducible rfl
                refine AnyJ.takeD (i := 4) (d := some 90) (v := ?_) rfl (by kernel_rfl) (by kernel_rfl) (by kernel_rfl) (by kernel_rfl) (by kernel_rfl) (fun _ _ _ h => h) (Or.inl ⟨by kernel_rfl, ?_⟩) hS ?_
                rotate_left
                · intro w' hS
                  obtain ⟨sF0, sF1⟩ := hS
                  go_simp
                  try with_reducible rfl
                refine AnyJ.takeD (i := 5) (d := some 91) (v := ?_) rfl (by kernel_rfl) (by kernel_rfl) (by kernel_rfl) (by kernel_rfl) (by kernel_rfl) (fun _ _ _ h => h) (Or.inl ⟨by kernel_rfl, ?_⟩) hS ?_
                rotate_left
                · intro w' hS
                  obtain ⟨sF0, sF1⟩ := hS
                  go_simp
                  try with_reducible rfl
                refine AnyJ.takeD (i := 6) (d := some 92) (v := ?_) rfl (by kernel_rfl) (by kernel_rfl) (by kernel_rfl) (by kernel_rfl) (by kernel_rfl) (fun _ _ _ h => h) (Or.inl ⟨by kernel_rfl, ?_⟩) hS ?_
                rotate_left
                · intro w' hS
                  obtain ⟨sF0, sF1⟩ := hS
                  go_simp
                  try with_reducible rfl
                refine AnyJ.takeD (i := 7) (d := some 93) (v := ?_) rfl (by kernel_rfl) (by kernel_rfl) (by kernel_rfl) (by kernel_rfl) (by kernel_rfl) (fun _ _ _ h => h) (Or.inl ⟨by kernel_rfl, ?_⟩) hS ?_
                rotate_left
                · intro w' hS
                  obtain ⟨sF0, sF1⟩ := hS
                  go_simp
                  try with_reducible rfl
                refine AnyJ.takeD (i := 8) (d := some 94) (v := ?_) rfl (by kernel_rfl) (by kernel_rfl) (by kernel_rfl) (by kernel_rfl) (by kernel_rfl) (fun _ _ _ h => h) (Or.inl ⟨by kernel_rfl, ?_⟩) hS ?_
                rotate_left
                · intro w' hS
                  obtain ⟨sF0, sF1⟩ := hS
                  go_simp
                  try with_reducible rfl
                refine AnyJ.takeD (i := 9) (d := some 95) (v := ?_) rfl (by kernel_rfl) (by kernel_rfl) (by kernel_rfl) (by kernel_rfl) (by kernel_rfl) (fun _ _ _ h => h) (Or.inl ⟨by kernel_rfl, ?_⟩) hS ?_
                rotate_left
                · intro w' hS
                  obtain ⟨sF0, sF1⟩ := hS
                  go_simp
                  try with_reducible rfl
                refine AnyJ.takeD (i := 10) (d := some 96) (v := ?_) rfl (by kernel_rfl) (by kernel_rfl) (by kernel_rfl) (by kernel_rfl) (by kernel_rfl) (fun _ _ _ h => h) (Or.inl ⟨by kernel_rfl, ?_⟩) hS ?_
                rotate_left
                · intro w' hS
                  obtain ⟨sF0, sF1⟩ := hS
                  go_simp
                  try with_reducible rfl
                refine AnyJ.one (i := 11) (by kernel_rfl) rfl (fun Kz hKz => ?_)
                go_simp
                refine hKz _ _ (fun h => absurd h (by decide)) ?_
                clear hKz Kz hS
                refine AnyJ.done (by kernel_rfl) ?_ _
                try simp only [Act.put, List.setIfInBounds_toArray, List.set_cons_zero, List.set_cons_succ]
                clear hW
                go_wp2_with fail
                go_roundw
                case rel => exact ⟨k + 1, by omega, by go_num, HS7.out, HB7.out.drew⟩
                case measure => simp [intOf]; omega
              ·
                have HS7 := Lib.hid (HO6.out.setC HKL.out 0)
                have hst2 := HST.out
                unfold mxI at hst2
                rw [if_neg hmx] at hst2
                rw [hst2] at HS7
                have HB7 := Lib.hid (Below.setCell HB6.out (show go' ≤ (⟨go', k, none⟩ : Addr).block from Nat.le_refl _) (.int .i64 0))
                clear hst2 HST
                refine AnyJ.beginP (fun w' : World => w'.cell? ⟨go', k, none⟩ = some (.int .i64 z) ∧ w'.cell? ⟨g6, 0, none⟩ = some (.int .i64 rm)) (fun i => decide (i ≤ 10)) (by kernel_rfl) ⟨czz, qr⟩ (fun hS => ?_)
                refine AnyJ.takeD (i := 0) (d := some 86) (v := ?_) rfl (by kernel_rfl) (by kernel_rfl) (by kernel_rfl) (by kernel_rfl) (by kernel_rfl) (fun _ _ _ h => h) (Or.inl ⟨by kernel_rfl, ?_⟩) hS ?_
                rotate_left
                · intro w' hS
                  obtain ⟨sF0, sF1⟩ := hS
                  go_simp
                  try with_reducible rfl
                refine AnyJ.takeD (i := 1) (d := some 87) (v := ?_) rfl (by kernel_rfl) (by kernel_rfl) (by kernel_rfl) (by kernel_rfl) (by kernel_rfl) (fun _ _ _ h => h) (Or.inl ⟨by kernel_rfl, ?_⟩) hS ?_
                rotate_left
                · intro w' hS
                  obtain ⟨sF0, sF1⟩ := hS
                  go_simp
                  try with_reducible rfl
                refine AnyJ.takeD (i := 2) (d := some 88) (v := ?_) rfl (by kernel_rfl) (by kernel_rfl) (by kernel_rfl) (by kernel_rfl) (by kernel_rfl) (fun _ _ _ h => h) (Or.inl ⟨by kernel_rfl, ?_⟩) hS ?_
                rotate_left
                · intro w' hS
                  obtain ⟨sF0, sF1⟩ := hS
                  go_simp
                  try with_reducible rfl
                refine AnyJ.takeD (i := 3) (d := some 89) (v := ?_) rfl (by kernel_rfl) (by kernel_rfl) (by kernel_rfl) (by kernel_rfl) (by kernel_rfl) (fun _ _ _ h => h) (Or.inl ⟨by kernel_rfl, ?_⟩) hS ?_
                rotate_left
                · intro w' hS
                  obtain ⟨sF0, sF1⟩ := hS
                  go_simp
                  try with_reducible rfl
                refine AnyJ.takeD (i := 4) (d := some 90) (v := ?_) rfl (by kernel_rfl) (by kernel_rfl) (by kernel_rfl) (by kernel_rfl) (by kernel_rfl) (fun _ _ _ h => h) (Or.inl ⟨by kernel_rfl, ?_⟩) hS ?_
                rotate_left
                · intro w' hS
                  obtain ⟨sF0, sF1⟩ := hS
                  go_simp
                  try with_reducible rfl
                refine AnyJ.takeD (i := 5) (d := some 91) (v := ?_) rfl (by kernel_rfl) (by kernel_rfl) (by kernel_rfl) (by kernel_rfl) (by kernel_rfl) (fun _ _ _ h => h) (Or.inl ⟨by kernel_rfl, ?_⟩) hS ?_
                rotate_left
                · intro w' hS
                  obtain ⟨sF0, sF1⟩ := hS
                  go_simp
                  try with_reducible rfl
                refine AnyJ.takeD (i := 6) (d := some 92) (v := ?_) rfl (by kernel_rfl) (by kernel_rfl) (by kernel_rfl) (by kernel_rfl) (by kernel_rfl) (fun _ _ _ h => h) (Or.inl ⟨by kernel_rfl, ?_⟩) hS ?_
                rotate_left
                · intro w' hS
                  obtain ⟨sF0, sF1⟩ := hS
                  go_simp
                  try with_reducible rfl
                refine AnyJ.takeD (i := 7) (d := some 93) (v := ?_) rfl (by kernel_rfl) (by kernel_rfl) (by kernel_rfl) (by kernel_rfl) (by kernel_rfl) (fun _ _ _ h => h) (Or.inl ⟨by kernel_rfl, ?_⟩) hS ?_
                rotate_left
                · intro w' hS
                  obtain ⟨sF0, sF1⟩ := hS
                  go_simp
                  try with_reducible rfl
                refine AnyJ.takeD (i := 8) (d := some 94) (v := ?_) rfl (by kernel_rfl) (by kernel_rfl) (by kernel_rfl) (by kernel_rfl) (by kernel_rfl) (fun _ _ _ h => h) (Or.inl ⟨by kernel_rfl, ?_⟩) hS ?_
                rotate_left
                · intro w' hS
                  obtain ⟨sF0, sF1⟩ := hS
                  go_simp
                  try with_reducible rfl
                refine AnyJ.takeD (i := 9) (d := some 95) (v := ?_) rfl (by kernel_rfl) (by kernel_rfl) (by kernel_rfl) (by kernel_rfl) (by kernel_rfl) (fun _ _ _ h => h) (Or.inl ⟨by kernel_rfl, ?_⟩) hS ?_
                rotate_left
                · intro w' hS
                  obtain ⟨sF0, sF1⟩ := hS
                  go_simp
                  try with_reducible rfl
                refine AnyJ.takeD (i := 10) (d := some 96) (v := ?_) rfl (by kernel_rfl) (by kernel_rfl) (by kernel_rfl) (by kernel_rfl) (by kernel_rfl) (fun _ _ _ h => h) (Or.inl ⟨by kernel_rfl, ?_⟩) hS ?_
                rotate_left
                · intro w' hS
                  obtain ⟨sF0, sF1⟩ := hS
                  go_simp
                  try with_reducible rfl
                refine AnyJ.one (i := 11) (by kernel_rfl) rfl (fun Kz hKz => ?_)
                go_simp
                refine hKz _ _ (fun h => absurd h (by decide)) ?_
                clear hKz Kz hS
                refine AnyJ.done (by kernel_rfl) ?_ _
                try simp only [Act.put, List.setIfInBounds_toArray, List.set_cons_zero, List.set_cons_succ]
                clear hW
                go_wp2_with fail
                go_roundw
                case rel => exact ⟨k + 1, by omega, by go_num, HS7.out, HB7.out.drew⟩
                case measure => simp [intOf]; omega
            · obtain rfl : n = k := by omega
              have HV : Hid (OwnV wr w.heap.size (.slice (some ⟨go', 0, none⟩) n n) (cntL l S A)) := by
                show OwnV _ _ _ _
                rw [← zF_end HL.out]; exact hO.out.lowC hwg
              go_wp2_with fail
              exact bodyPost_ret (v := .tuple #[.slice (some ⟨go', 0, none⟩) n n, .int .i64 0]) (by simp [results, Try.results18, go_sem]) rfl ⟨_, rfl, HV.out, hBww.out⟩

end Go.Proofs.Ytdijdfhlmnhcjaa
