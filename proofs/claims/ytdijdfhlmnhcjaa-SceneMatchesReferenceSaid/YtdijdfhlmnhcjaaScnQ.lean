/-
  The reference of scene, fourth part: has, Count.
-/
import Derived.Test.YtdijdfhlmnhcjaaScnP
namespace Go.Proofs.Ytdijdfhlmnhcjaa
set_option linter.unusedSimpArgs false
set_option linter.unusedVariables false
open Go.RowKit Go.MapKept

set_option maxRecDepth 100000 in
set_option maxHeartbeats 1600000 in
theorem R_has25 (a : Option Addr) (n cap : Nat) (zs : List Int) (t : Int) (w : World) (hn : n ≤ 9223372036854775807) (hs : SlI w a n zs) :
    Calls Try.prog 39 #[.slice a n cap, .int .i64 t] w fun e w' => e = .returned (.bool (decide (t ∈ zs))) ∧ w' = w := by
  have HS := Lib.hid hs
  have HL := Lib.hid hs.1
  obtain ⟨R, hR⟩ : ∃ R, decide (t ∈ zs) = R := ⟨_, rfl⟩
  rw [hR]
  have HR := Lib.hid hR
  clear hs hR
  go_enter Try.func39, Try.ntmps39
  go_wp2_with fail
  go_loop [5] (fun i => ∃ k : Nat, k ≤ n ∧ i = .int .i64 k ∧ Hid (¬ t ∈ zs.take k)) (fun i => n - (intOf i).toNat)
  case atStart => exact ⟨0, Nat.zero_le _, rfl, by show ¬ _; simp⟩
  case round =>
    obtain ⟨k, hk, rfl, hT⟩ := hrel
    by_cases hlt : k < n
    · obtain ⟨b1, o1, x, e1, _, c1, g1, _, g2⟩ := HS.out.get hlt
      subst e1
      have i1 : (0 : Int) ≤ (k : Int) := by omega
      have i2 : (k : Int) < (n : Int) := by omega
      by_cases hxt : x = t
      · have hr : R = true := by rw [← HR.out, ← hxt, decide_eq_true g2.out]
        subst hr
        have hb : (x == t) = true := by simpa using hxt
        clear hxt
        go_wp2_with fail
        go_ret
        exact ⟨rfl, rfl⟩
      · have hT2 : Hid (¬ t ∈ zs.take (k + 1)) := by
          show ¬ _
          rw [take_snoc_int (by rw [HL.out]; exact hlt), List.mem_append, g1.out]
          intro h
          rcases h with h | h
          · exact hT.out h
          · exact hxt (by simp at h; exact h.symm)
        have hb : (x == t) = false := by simpa using hxt
        clear hxt
        go_wp2_with fail
        go_round
        case rel => exact ⟨k + 1, by omega, by go_num, hT2⟩
        case measure => simp [intOf]; omega
    · obtain rfl : n = k := by omega
      have hr : R = false := by
        rw [← HR.out]
        have := hT.out
        rw [List.take_of_length_le (by rw [HL.out]; exact Nat.le_refl _)] at this
        exact decide_eq_false this
      subst hr
      go_wp2_with fail
      go_ret
      exact ⟨rfl, rfl⟩

/-- The reference counts from below nought. -/
def rZ (n : Nat) (l : List NightV) (z : List Int) : List Int := tabI n (fun i => z.getD i 0 - roomAt l i)
def gF (n : Nat) (z : List Int) (k : Nat) : List Int := tabI n (fun i => if i < k then mxI (z.getD i 0) else z.getD i 0)
theorem rZ_length (n : Nat) (l : List NightV) (z : List Int) : (rZ n l z).length = n := tabI_length _ _
theorem gF_length (n : Nat) (z : List Int) (k : Nat) : (gF n z k).length = n := tabI_length _ _
theorem rZ_get {n : Nat} {l : List NightV} {z : List Int} {i : Nat} (h : i < n) : (rZ n l z).getD i 0 = z.getD i 0 - roomAt l i := tabI_getD h
theorem zK_length (n : Nat) (S : List SaleV) (A : List Int) (k : Nat) : (zK n S A k).length = n := tabI_length _ _
theorem zJ_length (n : Nat) (S : List SaleV) (A : List Int) (k : Nat) (f : Int) (j : Nat) : (zJ n S A k f j).length = n := tabI_length _ _
theorem getD_set {z : List Int} {j i : Nat} {v : Int} (hj : j < z.length) : (z.set j v).getD i 0 = if i = j then v else z.getD i 0 := by
  rw [List.getD_eq_getElem?_getD, List.getElem?_set]
  by_cases e : j = i
  · subst e; simp [hj]
  · rw [if_neg e, if_neg (fun q => e q.symm), ← List.getD_eq_getElem?_getD]
theorem rZ_set {n : Nat} {l : List NightV} {z : List Int} {j : Nat} (hz : z.length = n) (hj : j < n) : (rZ n l z).set j ((rZ n l z).getD j 0 + 1) = rZ n l (z.set j (z.getD j 0 + 1)) := by
  rw [rZ_get hj]
  unfold rZ
  rw [tabI_set]
  refine tabI_ext (fun i hi => ?_)
  rw [getD_set (by omega)]
  by_cases e : i = j
  · subst e; rw [if_pos rfl, if_pos rfl]; omega
  · rw [if_neg e, if_neg e]
theorem gF_start {n : Nat} {z : List Int} (hz : z.length = n) : gF n z 0 = z := by
  unfold gF tabI
  refine List.ext_getElem (by simp [hz]) (fun i h1 h2 => ?_)
  simp [List.getD_eq_getElem?_getD, h2]
theorem gF_get {n : Nat} {z : List Int} {k : Nat} (h : k < n) : (gF n z k).getD k 0 = z.getD k 0 := by
  unfold gF
  rw [tabI_getD h, if_neg (Nat.lt_irrefl _)]
theorem gF_step {n : Nat} {z : List Int} {k : Nat} : (gF n z k).set k (mxI (z.getD k 0)) = gF n z (k + 1) := by
  unfold gF
  rw [tabI_set]
  refine tabI_ext (fun i hi => ?_)
  by_cases e : i = k
  · subst e; rw [if_pos rfl, if_pos (by omega)]
  · rw [if_neg e]
    by_cases h2 : i < k
    · rw [if_pos h2, if_pos (by omega)]
    · rw [if_neg h2, if_neg (by omega)]
theorem gF_end {n : Nat} {l : List NightV} {S : List SaleV} {A : List Int} {m : Nat} (hn : l.length = n) (hm : S.length = m) : gF n (rZ n l (zK n S A m)) n = cntL l S A := by
  subst hn
  unfold gF cntL
  refine tabI_ext (fun i hi => ?_)
  rw [if_pos hi, rZ_get hi]
  unfold zK
  rw [tabI_getD hi, List.take_of_length_le (by omega)]
  rfl
theorem rooms_take {l : List NightV} {k : Nat} {x : NightV} (h : l[k]? = some x) : (l.take (k + 1)).map (fun x => - x.rooms) = (l.take k).map (fun x => - x.rooms) ++ [- x.rooms] := by
  obtain ⟨hk, e⟩ := List.getElem?_eq_some_iff.1 h
  rw [List.take_succ_eq_append_getElem hk, List.map_append, e]
  rfl
theorem rooms_all {n : Nat} {l : List NightV} (hn : l.length = n) (S : List SaleV) (A : List Int) : l.map (fun x => - x.rooms) = rZ n l (zK n S A 0) := by
  subst hn
  rw [zK_zero]
  unfold rZ tabI
  refine List.ext_getElem (by simp) (fun i h1 h2 => ?_)
  have hi : i < l.length := by simpa using h1
  simp [roomAt, List.getElem?_eq_getElem hi, List.getD_eq_getElem?_getD, hi]
theorem zK_bound {n : Nat} {S : List SaleV} {A : List Int} {k i : Nat} (h : i < n) (hS : S.length ≤ 14000) : 0 ≤ (zK n S A k).getD i 0 ∧ (zK n S A k).getD i 0 ≤ 14000 := by
  unfold zK
  rw [tabI_getD h]
  have h1 : cntS (keptS (S.take k) A) (i : Int) ≤ 14000 := Nat.le_trans (cntS_le _ _) (Nat.le_trans (keptS_le _ _) (by rw [List.length_take]; omega))
  omega
theorem zJ_bound {n : Nat} {S : List SaleV} {A : List Int} {k j i : Nat} {f : Int} (h : i < n) (hS : S.length ≤ 14000) : 0 ≤ (zJ n S A k f j).getD i 0 ∧ (zJ n S A k f j).getD i 0 ≤ 14001 := by
  unfold zJ
  rw [tabI_getD h]
  have h1 : cntS (keptS (S.take k) A) (i : Int) ≤ 14000 := Nat.le_trans (cntS_le _ _) (Nat.le_trans (keptS_le _ _) (by rw [List.length_take]; omega))
  split <;> omega

set_option maxRecDepth 100000 in
set_option maxHeartbeats 3200000 in
theorem R_Count_err (a : Option Addr) (n cap : Nat) (l : List NightV) (b : Option Addr) (m bcap : Nat) (S : List SaleV) (c : Option Addr) (q ccap : Nat) (A : List Int) (w : World)
    (hn : n ≤ 9223372036854775807) (hm : m ≤ 9223372036854775807) (hq : q ≤ 9223372036854775807) (hs : SlN w a n l) (ht : SlS w b m S) (hu : SlI w c q A) (hB : cntB l S A = false) :
    Calls Try.prog 19 #[.slice a n cap, .slice b m bcap, .slice c q ccap] w fun e w' => e = .returned (.tuple #[.slice none 0 0, .int .i64 1]) ∧ Below w.heap.size w w' := by
  have HS := Lib.hid hs
  have HT := Lib.hid ht
  have HU := Lib.hid hu
  have HUL := Lib.hid hu.1
  have HB := Lib.hid hB
  clear hs ht hu hB
  go_enter Try.func19, Try.ntmps19
  go_wp2_with fail
  refine (R_valid_any a n cap l _ hn HS.out _ rfl).mono ?_
  rintro e w1 ⟨rfl, hb1⟩
  go_wp2_with fail
  refine (R_AreSales25 b m bcap S _ hm (HT.out.step hb1) _ rfl).mono ?_
  rintro e w2 ⟨rfl, hb2⟩
  have HB2 : Hid (Below w.heap.size w w2) := hb1.trans (hb2.mono hb1.size)
  clear hb1 hb2
  cases h1 : nightsB l with
  | false =>
    go_wp2_with fail
    go_ret2
    exact ⟨rfl, HB2.out⟩
  | true =>
    cases h2 : salesB S with
    | false =>
      go_wp2_with fail
      go_ret2
      exact ⟨rfl, HB2.out⟩
    | true =>
      by_cases h3 : q ≤ 3000
      · have i3 : (q : Int) ≤ 3000 := by omega
        have HAS : Hid (A.any strB = true) := by
          show A.any strB = true
          have := HB.out
          unfold cntB at this
          rw [h1, h2, HUL.out, decide_eq_true h3] at this
          simpa using this
        have HU2 := Lib.hid (HU.out.below HB2.out)
        clear h1 h2
        go_wp2_with fail
        go_loop [10] (fun vj => ∃ j : Nat, j ≤ q ∧ vj = .int .i64 j ∧ Hid ((A.take j).any strB = false)) (fun vj => q - (intOf vj).toNat)
        case atStart => exact ⟨0, Nat.zero_le _, rfl, by show _ = _; simp⟩
        case round =>
          obtain ⟨j, hj, rfl, hJ⟩ := hrel
          by_cases hjq : j < q
          · obtain ⟨b1, o1, x, e1, _, c1, g1, _, g2⟩ := HU2.out.get hjq
            subst e1
            have j1 : (0 : Int) ≤ (j : Int) := by omega
            have j2 : (j : Int) < (q : Int) := by omega
            go_wp2_with fail
            cases hx : inR x 1 1000000 with
            | false =>
              refine (R_in25 _ _ _ _ false hx).mono ?_
              rintro e w' ⟨rfl, rfl⟩
              go_wp2_with fail
              go_ret2
              exact ⟨rfl, HB2.out⟩
            | true =>
              refine (R_in25 _ _ _ _ true hx).mono ?_
              rintro e w' ⟨rfl, rfl⟩
              have hJ2 : Hid ((A.take (j + 1)).any strB = false) := by
                show _ = _
                rw [any_take_succ (by rw [HUL.out]; exact hjq), hJ.out, g1.out]
                simp [strB, hx]
              go_wp2_with fail
              go_round
              case rel => exact ⟨j + 1, by omega, by go_num, hJ2⟩
              case measure => simp [intOf]; omega
          · exfalso
            obtain rfl : j = q := by omega
            have := hJ.out
            rw [List.take_of_length_le (by rw [HUL.out]; exact Nat.le_refl _), HAS.out] at this
            cases this
      · have i3 : (3000 : Int) < (q : Int) := by omega
        go_wp2_with fail
        go_ret2
        exact ⟨rfl, HB2.out⟩

set_option maxRecDepth 100000 in
set_option maxHeartbeats 6400000 in
theorem R_Count_ok (a : Option Addr) (n cap : Nat) (l : List NightV) (b : Option Addr) (m bcap : Nat) (S : List SaleV) (c : Option Addr) (q ccap : Nat) (A : List Int) (w : World)
    (hs : SlN w a n l) (ht : SlS w b m S) (hu : SlI w c q A) (hB : cntB l S A = true) :
    Calls Try.prog 19 #[.slice a n cap, .slice b m bcap, .slice c q ccap] w fun e w' => ∃ ad cp, e = .returned (.tuple #[.slice ad n cp, .int .i64 0]) ∧ SlI w' ad n (cntL l S A) ∧ Below w.heap.size w w' := by
  obtain ⟨h1, h2, h3, h4⟩ := cntB_in hB
  have hn : n ≤ 366 := by have := (nightsB_in h1).1; have := hs.1; omega
  have hm : m ≤ 14000 := by have := (salesB_in h2).2.2; have := ht.1; omega
  have hq : q ≤ 3000 := by have := hu.1; omega
  have HS := Lib.hid hs
  have HT := Lib.hid ht
  have HU := Lib.hid hu
  have HL := Lib.hid hs.1
  have HTL := Lib.hid ht.1
  have HUL := Lib.hid hu.1
  have HNB := Lib.hid h1
  have HSB := Lib.hid h2
  have HAS := Lib.hid h4
  have HS14 : Hid (S.length ≤ 14000) := (salesB_in h2).2.2
  clear hs ht hu hB h1 h2 h3 h4
  go_enter Try.func19, Try.ntmps19
  go_wp2_with fail
  refine (R_valid_any a n cap l _ (by omega) HS.out _ HNB.out).mono ?_
  rintro e w1 ⟨rfl, hb1⟩
  go_wp2_with fail
  refine (R_AreSales25 b m bcap S _ (by omega) (HT.out.step hb1) _ HSB.out).mono ?_
  rintro e w2 ⟨rfl, hb2⟩
  have HB2 : Hid (Below w.heap.size w w2) := hb1.trans (hb2.mono hb1.size)
  have HU2 := Lib.hid (HU.out.below HB2.out)
  have i3 : (q : Int) ≤ 3000 := by omega
  clear hb1 hb2
  go_wp2_with fail
  go_loop [10] (fun vj => ∃ j : Nat, j ≤ q ∧ vj = .int .i64 j) (fun vj => q - (intOf vj).toNat)
  case atStart => exact ⟨0, Nat.zero_le _, rfl⟩
  case round =>
    obtain ⟨j, hj, rfl⟩ := hrel
    by_cases hjq : j < q
    · obtain ⟨b1, o1, x, e1, _, c1, g1, _, g2⟩ := HU2.out.get hjq
      subst e1
      have j1 : (0 : Int) ≤ (j : Int) := by omega
      have j2 : (j : Int) < (q : Int) := by omega
      have hx : inR x 1 1000000 = true := by
        have := List.any_eq_false.1 HAS.out x g2.out
        simpa [strB] using this
      go_wp2_with fail
      refine (R_in25 _ _ _ _ true hx).mono ?_
      rintro e w' ⟨rfl, rfl⟩
      go_wp2_with fail
      go_round
      case rel => exact ⟨j + 1, by omega, by go_num⟩
      case measure => simp [intOf]; omega
    · obtain rfl : q = j := by omega
      obtain ⟨w4, hw4⟩ : ∃ W, W = w2 := ⟨_, rfl⟩
      subst hw4
      go_wp2_with fail
      go_loopw [11, 12] (fun v vi wr => ∃ (k : Nat) (ad : Option Addr) (cp : Nat), k ≤ n ∧ v = .slice ad k cp ∧ vi = .int .i64 k ∧ Hid (OwnV wr w4.heap.size (.slice ad k cp) ((l.take k).map (fun x => - x.rooms))) ∧ Hid (Below w4.heap.size w4 wr)) (fun _ vi _ => n - (intOf vi).toNat)
      case atStart => exact ⟨0, none, 0, Nat.zero_le _, rfl, rfl, by show OwnV _ _ _ _; rw [List.take_zero]; exact OwnV.nil _ _, Below.refl _ _⟩
      case round =>
        obtain ⟨k, ad, cp, hk, rfl, rfl, hO, hB⟩ := hrel
        have hBw : Hid (Below w.heap.size w wr) := HB2.out.trans (hB.out.mono HB2.out.size)
        have hsz := hB.out.size
        by_cases hlt : k < n
        · obtain ⟨x, bb, off, hx, _, hin, hab, _, c0, c1, c2⟩ := (HS.out.below hBw.out).get hlt
          subst hab
          have hrm := (nightB_nums ((nightsB_in HNB.out).2 _ (List.mem_of_getElem? hx))).1
          have HTK := Lib.hid (rooms_take hx)
          have HLk : Hid (((l.take k).map (fun x => - x.rooms)).length = k) := by
            show _ = _; rw [List.length_map, List.length_take, HL.out]; omega
          obtain ⟨rm, sd, sa, sn, sc, sz⟩ := x
          simp only [] at c0 c1 c2 HTK hrm
          obtain ⟨r0, r1⟩ := hrm
          have i1 : (0 : Int) ≤ (k : Int) := by omega
          have i2 : (k : Int) < (n : Int) := by omega
          clear hx hin
          go_upto_region 13 with (at_builtin; refine wpList_append_int rfl _ _ _ rfl Try.underlying23 w4.heap.size _ _ rfl (hO.out.alloc _) wr.heap.size 1 (-rm) rfl ((Row.new' wr [_] _ rfl).cell 0 rfl) (by rw [HLk.out]; omega) (by simp; omega) ?_; intro v8 w8 hown8 hbl8 hsz8)
          rw [← HTK.out] at hown8
          obtain ⟨ad8, cp8, rfl⟩ := hown8.form (n := k + 1) (by rw [List.length_map, List.length_take, HL.out]; omega)
          have HO8 := Lib.hid hown8
          have HB8 := Lib.hid (hbl8 _ (hB.out.alloc hsz _))
          clear hown8 hbl8 HTK
          go_wp2_with fail
          go_roundw
          case rel => exact ⟨k + 1, ad8, cp8, by omega, rfl, by go_num, HO8.out, HB8.out⟩
          case measure => simp [intOf]; omega
        · obtain rfl : n = k := by omega
          have HO0 : Hid (OwnV wr w4.heap.size (.slice ad n cp) (rZ n l (zK n S A 0))) := by
            show OwnV _ _ _ _
            rw [← rooms_all HL.out S A]
            have := hO.out
            rwa [List.take_of_length_le (by rw [HL.out]; exact Nat.le_refl _)] at this
          have HB0 := hB
          clear hO hB hBw hsz
          go_wp2_with fail
          go_loopw [13] (fun vi wr => ∃ k : Nat, k ≤ m ∧ vi = .int .i64 k ∧ Hid (OwnV wr w4.heap.size (.slice ad n cp) (rZ n l (zK n S A k))) ∧ Hid (Below w4.heap.size w4 wr)) (fun vi _ => m - (intOf vi).toNat)
          case atStart => exact ⟨0, Nat.zero_le _, rfl, HO0.out, HB0.out⟩
          case round =>
            obtain ⟨k, hk, rfl, hO, hB⟩ := hrel
            have hBw : Hid (Below w.heap.size w wr) := HB2.out.trans (hB.out.mono HB2.out.size)
            by_cases hlt : k < m
            · obtain ⟨x, bb, off, hx, hab, _, c0, c1, c2, c3, c4, c5, c6, c7⟩ := (HT.out.step hBw.out).get hlt
              subst hab
              have hsk := askB_in (saleB_in ((salesB_in HSB.out).1 _ (List.mem_of_getElem? hx.out))).2.2.2
              obtain ⟨id, ch, tm, ct, kd, fr, un, pe⟩ := x
              simp only [] at c0 c1 c2 c3 c4 c5 c6 c7 hsk
              obtain ⟨_, ⟨f0, f1⟩, ⟨u0, u1, _⟩, _⟩ := hsk
              have i1 : (0 : Int) ≤ (k : Int) := by omega
              have i2 : (k : Int) < (m : Int) := by omega
              go_wp2_with fail
              refine (R_has25 c q ccap A id _ (by omega) (HU.out.below hBw.out)).mono ?_
              rintro e w' ⟨rfl, rfl⟩
              by_cases hmem : id ∈ A
              · rw [decide_eq_true hmem]
                have HZ := Lib.hid (zK_out (n := n) hx.out hmem)
                clear hmem
                go_wp2_with fail
                go_roundw
                case rel => exact ⟨k + 1, by omega, by go_num, by show OwnV _ _ _ _; rw [HZ.out]; exact hO.out, hB.out⟩
                case measure => simp [intOf]; omega
              · have HNM : Hid (¬ id ∈ A) := hmem
                rw [decide_eq_false hmem]
                clear hmem
                obtain ⟨j0, rfl⟩ := Int.eq_ofNat_of_zero_le f0
                clear c0 c1 c2 c3 c4 c7
                go_wp2_with fail
                clear c5 c6
                go_loopw [14] (fun vj wq => ∃ j : Nat, j0 ≤ j ∧ (j : Int) ≤ un ∧ vj = .int .i64 j ∧ Hid (OwnV wq w4.heap.size (.slice ad n cp) (rZ n l (zJ n S A k (j0 : Int) j))) ∧ Hid (Below w4.heap.size w4 wq)) (fun vj _ => un.toNat - (intOf vj).toNat)
                case atStart => exact ⟨j0, Nat.le_refl _, by omega, rfl, by show OwnV _ _ _ _; rw [zJ_start rfl]; exact hO.out, hB.out⟩
                case round =>
                  obtain ⟨j, hj0, hju, rfl, hOj, hBj⟩ := hrel
                  have hBwj : Hid (Below w.heap.size w wr) := HB2.out.trans (hBj.out.mono HB2.out.size)
                  obtain ⟨x2, bb2, off2, hx2, hab, _, _, _, _, _, _, _, c6, _⟩ := (HT.out.step hBwj.out).get hlt
                  cases hab
                  have hxe : x2 = ⟨id, ch, tm, ct, kd, j0, un, pe⟩ := by
                    have := hx2.out
                    rw [hx.out] at this
                    exact (Option.some.inj this).symm
                  subst hxe
                  simp only [] at c6
                  have j1 : (0 : Int) ≤ (j : Int) := by omega
                  by_cases hjl : (j : Int) < un
                  · by_cases hjn : j < n
                    · have j2 : (j : Int) < (n : Int) := by omega
                      have hnp : 0 < n := by omega
                      obtain ⟨gg, cp', e1, hgg, _, _, _⟩ := hOj.out.own (by rw [rZ_length]; exact hnp)
                      rw [rZ_length] at e1
                      cases e1
                      have hjl2 : j < (rZ n l (zJ n S A k (j0 : Int) j)).length := by rw [rZ_length]; exact hjn
                      have cz := hOj.out.ownI.cell hjl2
                      have zz := hOj.out.ownI.frozen j
                      have lz := hOj.out.ownI.lt
                      obtain ⟨z, hz⟩ : ∃ z, (rZ n l (zJ n S A k (j0 : Int) j)).getD j 0 = z := ⟨_, rfl⟩
                      rw [hz] at cz
                      have hzb : -400 ≤ z ∧ z ≤ 14001 := by
                        rw [← hz, rZ_get hjn]
                        have h1 := zJ_bound (A := A) (k := k) (j := j) (f := (j0 : Int)) hjn HS14.out
                        have h2 := roomAt_nonneg HNB.out j
                        omega
                      obtain ⟨z0, z1⟩ := hzb
                      have hst := rZ_set (l := l) (zJ_length n S A k (j0 : Int) j) hjn
                      rw [zJ_step (by omega) hjn, hz] at hst
                      have HS6 := Lib.hid (hOj.out.setC hjl2 (z + 1))
                      rw [hst] at HS6
                      have HB7 := Lib.hid (Below.setCell hBj.out (show w4.heap.size ≤ (⟨gg, j, none⟩ : Addr).block from hgg) (.int .i64 (z + 1)))
                      clear hz hst hjl2
                      go_wp2_with fail
                      go_roundw
                      case rel => exact ⟨j + 1, by omega, by omega, by go_num, HS6.out, HB7.out⟩
                      case measure => simp [intOf]; omega
                    · have j2 : ¬ (j : Int) < (n : Int) := by omega
                      have hjn2 : ¬ ((j : Int) < un ∧ j < n) := fun h => hjn h.2
                      have hend := zJ_end (n := n) (j := j) hx.out HNM.out (show (j0 : Int) ≤ (j : Int) by omega) hjn2 (Or.inl hju) u0
                      have HE := Lib.hid hend
                      clear hend
                      go_wp2_with fail
                      go_roundw
                      case rel => exact ⟨k + 1, by omega, by go_num, by show OwnV _ _ _ _; rw [← HE.out]; exact hOj.out, hBj.out⟩
                      case measure => simp [intOf]; omega
                  · have hjn2 : ¬ ((j : Int) < un ∧ j < n) := fun h => hjl h.1
                    have hend := zJ_end (n := n) (j := j) hx.out HNM.out (show (j0 : Int) ≤ (j : Int) by omega) hjn2 (Or.inl hju) u0
                    have HE := Lib.hid hend
                    clear hend
                    go_wp2_with fail
                    go_roundw
                    case rel => exact ⟨k + 1, by omega, by go_num, by show OwnV _ _ _ _; rw [← HE.out]; exact hOj.out, hBj.out⟩
                    case measure => simp [intOf]; omega
            · obtain rfl : m = k := by omega
              have HOF : Hid (OwnV wr w4.heap.size (.slice ad n cp) (gF n (rZ n l (zK n S A m)) 0)) := by
                show OwnV _ _ _ _
                rw [gF_start (rZ_length _ _ _)]; exact hO.out
              have hB5 := hB
              clear hO hB hBw
              go_wp2_with fail
              go_loopw [15] (fun vi wr => ∃ k : Nat, k ≤ n ∧ vi = .int .i64 k ∧ Hid (OwnV wr w4.heap.size (.slice ad n cp) (gF n (rZ n l (zK n S A m)) k)) ∧ Hid (Below w4.heap.size w4 wr)) (fun vi _ => n - (intOf vi).toNat)
              case atStart => exact ⟨0, Nat.zero_le _, rfl, HOF.out, hB5.out⟩
              case round =>
                obtain ⟨k, hk, rfl, hO, hB⟩ := hrel
                by_cases hlt : k < n
                · obtain ⟨gg, cp', e1, hgg, _, _, _⟩ := hO.out.own (by rw [gF_length]; omega)
                  rw [gF_length] at e1
                  cases e1
                  have hkl : k < (gF n (rZ n l (zK n S A m)) k).length := by rw [gF_length]; exact hlt
                  have cz := hO.out.ownI.cell hkl
                  have zz := hO.out.ownI.frozen k
                  have lz := hO.out.ownI.lt
                  have hst := gF_step (n := n) (z := rZ n l (zK n S A m)) (k := k)
                  rw [gF_get hlt] at cz
                  have hzb : -400 ≤ (rZ n l (zK n S A m)).getD k 0 ∧ (rZ n l (zK n S A m)).getD k 0 ≤ 14001 := by
                    rw [rZ_get hlt]
                    have h1 := zK_bound (A := A) (k := m) hlt HS14.out
                    have h2 := roomAt_nonneg HNB.out k
                    omega
                  obtain ⟨z, hz⟩ : ∃ z, (rZ n l (zK n S A m)).getD k 0 = z := ⟨_, rfl⟩
                  rw [hz] at cz hst hzb
                  obtain ⟨z0, z1⟩ := hzb
                  have i1 : (0 : Int) ≤ (k : Int) := by omega
                  have i2 : (k : Int) < (n : Int) := by omega
                  clear hz
                  by_cases hmx : 0 < z
                  ·
                    have HS7 := Lib.hid (hO.out.setC hkl z)
                    have hst2 := hst
                    unfold mxI at hst2
                    rw [if_pos hmx] at hst2
                    rw [hst2] at HS7
                    have HB7 := Lib.hid (Below.setCell hB.out (show w4.heap.size ≤ (⟨gg, k, none⟩ : Addr).block from hgg) (.int .i64 z))
                    clear hst2 hst hkl
                    go_wp2_with fail
                    go_roundw
                    case rel => exact ⟨k + 1, by omega, by go_num, HS7.out, HB7.out⟩
                    case measure => simp [intOf]; omega
                  ·
                    have HS7 := Lib.hid (hO.out.setC hkl 0)
                    have hst2 := hst
                    unfold mxI at hst2
                    rw [if_neg hmx] at hst2
                    rw [hst2] at HS7
                    have HB7 := Lib.hid (Below.setCell hB.out (show w4.heap.size ≤ (⟨gg, k, none⟩ : Addr).block from hgg) (.int .i64 0))
                    clear hst2 hst hkl
                    go_wp2_with fail
                    go_roundw
                    case rel => exact ⟨k + 1, by omega, by go_num, HS7.out, HB7.out⟩
                    case measure => simp [intOf]; omega
                · obtain rfl : n = k := by omega
                  have hBf : Hid (Below w.heap.size w wr) := HB2.out.trans (hB.out.mono HB2.out.size)
                  have HV : Hid (SlI wr ad n (cntL l S A)) := by
                    have := hO.out
                    rw [gF_end HL.out HTL.out] at this
                    exact this.sli (by rw [cntL_length, HL.out])
                  go_wp2_with fail
                  exact bodyPost_ret (v := .tuple #[.slice ad n cp, .int .i64 0]) (by simp [results, Try.results19, go_sem]) rfl ⟨_, _, rfl, HV.out, hBf.out⟩

end Go.Proofs.Ytdijdfhlmnhcjaa
