/-
  AllotRefuses: a plan is refused exactly if there is a night on which more guests than promised are walked without any shares; the scene names the first one, and how many are walked there; otherwise each night has the shares of its wishes, and keeps the promise.
  No condition: for every input.
-/
import Derived.Test.YtijbhdpaikajkaaAltL
import Derived.Test.YtijbhdpaikajkaaAltO
import Derived.Deep.RegionHeld3
namespace Go.Proofs.Ytijbhdpaikajkaa
set_option linter.unusedSimpArgs false
set_option linter.unusedVariables false
open Go.ChangeShapes Go.WideShapes Go.ChangeAt Go.RowKit

theorem first_over (most : Int) (l : List NightV) : (∀ (j : Nat) x, l[j]? = some x → x.sold ≤ x.rooms + most) ∨ ∃ (i : Nat) (x : NightV), l[i]? = some x ∧ x.rooms + most < x.sold ∧ ∀ (j : Nat) y, j < i → l[j]? = some y → y.sold ≤ y.rooms + most := by
  rcases first_brk (fun x => decide (x.rooms + most < x.sold)) l with h | ⟨i, x, _, hx, hb, hp⟩
  · refine Or.inl (fun j x hx => ?_)
    have := any_brk h hx
    simp at this
    omega
  · refine Or.inr ⟨i, x, hx, by simpa using hb, fun j y hj hy => ?_⟩
    have := hp j y hj hy
    simp at this
    omega
theorem Plan_okA (a b : Option Addr) (n cap capm : Nat) (l : List NightV) (ls : List ListV) (c : Nat) (most : Int) (w : World) (hs : SlN w a n l) (hcaps : ∀ x ∈ l, x.n ≤ x.cap ∧ x.cap ≤ maxLen) (ht : SlL w b n ls) (hB : plB l ls c most = true) (hall : ∀ (j : Nat) x, l[j]? = some x → x.sold ≤ x.rooms + most) :
    Calls Try.prog 19 #[.slice a n cap, .slice b n capm, .int .i64 c, .int .i64 most] w fun e w' => ∃ ad cp L, e = .returned (.tuple #[.slice ad n cp, .agg #[.int .i64 0, .int .i64 0, .slice none 0 0, .slice none 0 0], .bool true, .int .i64 0]) ∧ SlN w' ad n L ∧ Hid (∀ x ∈ L, x.n ≤ x.cap ∧ x.cap ≤ maxLen) ∧ Hid (L.map triN = plT c most l ls) ∧ Below w.heap.size w w' := by
  refine (Plan_ok a b n cap capm l ls c most w hs hcaps ht hB).mono ?_
  rintro e w' ⟨h | h, hb⟩
  · obtain ⟨ad, cp, L, rfl, h1, h2, _, _, h3, _⟩ := h
    exact ⟨ad, cp, L, rfl, h1, h2, h3, hb⟩
  · obtain ⟨i, x, a1, d1, a2, d2, _, _, _, hx, hlt, _⟩ := h
    have := hall i x hx
    omega
theorem Plan_okB (a b : Option Addr) (n cap capm : Nat) (l : List NightV) (ls : List ListV) (c : Nat) (most : Int) (w : World) (hs : SlN w a n l) (hcaps : ∀ x ∈ l, x.n ≤ x.cap ∧ x.cap ≤ maxLen) (ht : SlL w b n ls) (hB : plB l ls c most = true) (i : Nat) (x : NightV) (hx : l[i]? = some x) (hlt : x.rooms + most < x.sold) (hpre : ∀ (j : Nat) y, j < i → l[j]? = some y → y.sold ≤ y.rooms + most) (W : Int) (hW : x.sold - x.rooms = W) :
    Calls Try.prog 19 #[.slice a n cap, .slice b n capm, .int .i64 c, .int .i64 most] w fun e w' => ∃ a1 d1 a2 d2, e = .returned (.tuple #[.slice none 0 0, .agg #[.int .i64 i, .int .i64 W, .slice a1 0 d1, .slice a2 0 d2], .bool false, .int .i64 0]) ∧ SlC w' a1 0 d1 [] ∧ SlC w' a2 0 d2 [] ∧ Below w.heap.size w w' := by
  refine (Plan_ok a b n cap capm l ls c most w hs hcaps ht hB).mono ?_
  rintro e w' ⟨h | h, hb⟩
  · obtain ⟨ad, cp, L, rfl, h1, h2, _, _, h3, h4⟩ := h
    have := h4 i x hx
    omega
  · obtain ⟨j, y, a1, d1, a2, d2, rfl, k1, k2, hy, hly, hpj⟩ := h
    have hij : j = i := by
      rcases Nat.lt_trichotomy j i with h | h | h
      · have := hpre j y h hy; omega
      · exact h
      · have := hpj i x h hx; omega
    subst hij
    rw [hx] at hy
    cases hy
    exact ⟨a1, d1, a2, d2, by rw [hW], k1, k2, hb⟩
theorem usA_sha24 {r s : Int} {zs : List Int} {cN : Nat} {most : Int} (hl : zs.length ≤ 30) (hz : shIn zs) (hr : 0 ≤ r ∧ r ≤ 400) (hs : 0 ≤ s ∧ s ≤ 1000) (hm : 0 ≤ most ∧ most ≤ 1000) (hc : cN ≤ 30) (h : s ≤ r + most) :
    shaE r s zs cN most = 0 ∧ shaZ r s zs cN most = divA zs cN (r + most - s) ∧ okA r s zs cN most = true := by
  have hok : okA r s zs cN most = true := by
    unfold okA
    rw [nightB_of hl hz hr hs, inB_true (by omega) (by omega), inB_true hm.1 hm.2]; rfl
  have hE : shaE r s zs cN most = 0 := by unfold shaE; rw [if_pos hok, if_neg (by omega)]
  exact ⟨hE, by unfold shaZ; rw [if_pos hE, Int.toNat_natCast], hok⟩
theorem plB_parts {l : List NightV} {ls : List ListV} {c most : Int} (h : plB l ls c most = true) : nightsB l = true ∧ (∃ cN : Nat, c = cN ∧ cN ≤ 30) ∧ (0 ≤ most ∧ most ≤ 1000) ∧ ls.length = l.length ∧ ∀ (i : Nat) y, ls[i]? = some y → sharesB y.zs = true := by
  unfold plB at h
  simp only [Bool.and_eq_true] at h
  obtain ⟨⟨⟨⟨h1, h2⟩, h3⟩, h4⟩, h5⟩ := h
  obtain ⟨c0, c1⟩ := inB_iff.1 h2
  obtain ⟨cN, rfl⟩ := Int.eq_ofNat_of_zero_le c0
  refine ⟨h1, ⟨cN, rfl, by omega⟩, inB_iff.1 h3, by simpa using h4, fun i y hy => ?_⟩
  simp only [Bool.not_eq_true', List.any_eq_false] at h5
  have := h5 y (List.mem_of_getElem? hy)
  simpa using this
theorem bare_wk {l : List NightV} {n c k : Nat} {x : NightV} (hk : k < n) (hx : l[k]? = some x) : (((l.take n).map bareN).map (wkN c)).getD k 0 = max 0 (x.sold - x.rooms) := by
  have h1 := bare_at hk hx
  have h2 : (((l.take n).map bareN).map (wkN c))[k]? = some (wkN c (bareN x)) := by rw [List.getElem?_map, h1]; rfl
  rw [List.getD_eq_getElem?_getD, h2]
  show wkI x.rooms x.sold [] c = _
  rw [wkI_bare]

set_option maxRecDepth 100000 in
set_option maxHeartbeats 12800000 in
theorem arefuses_walk (a : Option Addr) (n cap : Nat) (l : List NightV) (b : Option Addr) (m capm : Nat) (ls : List ListV) (c most : Int) (hwf : ∀ x ∈ l, NightWf x) (_ : ∀ x ∈ ls, ListWf x) (_ : (Lit.int .i64 c).wf = true) (_ : (Lit.int .i64 most).wf = true) (w : World) (hv : SlN w a n l ∧ n ≤ cap ∧ cap ≤ maxLen) (hv2 : SlL w b m ls ∧ m ≤ capm ∧ capm ≤ maxLen) :
    Calls Try.prog 7 #[.slice a n cap, .slice b m capm, .int .i64 c, .int .i64 most] w fun e w' => e = .returned (.bool true) ∧ Below w.heap.size w w' := by
  obtain ⟨hs, hcap1, hcap2⟩ := hv
  obtain ⟨ht, hcap3, hcap4⟩ := hv2
  unfold maxLen at hcap2 hcap4
  have HS := Lib.hid hs
  have HT := Lib.hid ht
  have HL := Lib.hid hs.1
  have HL2 := Lib.hid ht.1
  have HC : Hid (∀ x ∈ l, x.n ≤ x.cap ∧ x.cap ≤ maxLen) := wf_caps hwf
  clear hs ht hwf
  cases hf : fewN l with
  | false =>
    have HF := Lib.hid hf
    clear hf
    go_enter Try.func7, Try.ntmps7
    go_wp2_with fail
    refine (a_head_any _).mono ?_
    rintro e w1 ⟨rfl, hb1⟩
    have HB1 : Below w.heap.size w w1 := by (repeat' (first | (with_reducible exact Below.refl _ _) | (with_reducible assumption) | (with_reducible exact Bw.out (by with_reducible assumption)) | (with_reducible refine bw_alloc ?_ _) | (with_reducible refine bw_step ?_ (by with_reducible assumption)) | (with_reducible refine Below.alloc ?_ ?_ _) | (with_reducible refine Below.drew ?_) | (with_reducible refine below_drewN ?_ _) | (with_reducible refine Below.setCell ?_ ?_ _) | (with_reducible refine below_step ?_ (by with_reducible assumption) ?_) | (with_reducible exact Nat.le_refl _) | omega | (simp; omega) | (simp; done)))
    go_wp2_with fail
    refine (R_few_any _ _ _ l _ (by omega) (HS.out.below (by (repeat' (first | (with_reducible exact Below.refl _ _) | (with_reducible assumption) | (with_reducible exact Bw.out (by with_reducible assumption)) | (with_reducible refine bw_alloc ?_ _) | (with_reducible refine bw_step ?_ (by with_reducible assumption)) | (with_reducible refine Below.alloc ?_ ?_ _) | (with_reducible refine Below.drew ?_) | (with_reducible refine below_drewN ?_ _) | (with_reducible refine Below.setCell ?_ ?_ _) | (with_reducible refine below_step ?_ (by with_reducible assumption) ?_) | (with_reducible exact Nat.le_refl _) | omega | (simp; omega) | (simp; done))))) false HF.out).mono ?_
    rintro e w' ⟨rfl, rfl⟩
    go_wp2_with fail
    go_ret
    refine ⟨(by first | rfl | exact ret_bool (by first | rfl | (simp; done) | (simp; omega))), ?_⟩
    (repeat' (first | (with_reducible exact Below.refl _ _) | (with_reducible assumption) | (with_reducible exact Bw.out (by with_reducible assumption)) | (with_reducible refine bw_alloc ?_ _) | (with_reducible refine bw_step ?_ (by with_reducible assumption)) | (with_reducible refine Below.alloc ?_ ?_ _) | (with_reducible refine Below.drew ?_) | (with_reducible refine below_drewN ?_ _) | (with_reducible refine Below.setCell ?_ ?_ _) | (with_reducible refine below_step ?_ (by with_reducible assumption) ?_) | (with_reducible exact Nat.le_refl _) | omega | (simp; omega) | (simp; done)))
  | true =>
    have HF := Lib.hid hf
    clear hf
    by_cases h20 : n ≤ 20
    · obtain ⟨f2, hf2⟩ : ∃ f, (ls.all (fun x => decide (x.n ≤ 40)) && decide (m ≤ 20)) = f := ⟨_, rfl⟩
      have HF2 := Lib.hid hf2
      clear hf2
      cases f2 with
      | false =>
        go_enter Try.func7, Try.ntmps7
        go_wp2_with fail
        refine (a_head_any _).mono ?_
        rintro e w1 ⟨rfl, hb1⟩
        have HB1 : Below w.heap.size w w1 := by (repeat' (first | (with_reducible exact Below.refl _ _) | (with_reducible assumption) | (with_reducible exact Bw.out (by with_reducible assumption)) | (with_reducible refine bw_alloc ?_ _) | (with_reducible refine bw_step ?_ (by with_reducible assumption)) | (with_reducible refine Below.alloc ?_ ?_ _) | (with_reducible refine Below.drew ?_) | (with_reducible refine below_drewN ?_ _) | (with_reducible refine Below.setCell ?_ ?_ _) | (with_reducible refine below_step ?_ (by with_reducible assumption) ?_) | (with_reducible exact Nat.le_refl _) | omega | (simp; omega) | (simp; done)))
        go_wp2_with fail
        refine (R_few_any _ _ _ l _ (by omega) (HS.out.below (by (repeat' (first | (with_reducible exact Below.refl _ _) | (with_reducible assumption) | (with_reducible exact Bw.out (by with_reducible assumption)) | (with_reducible refine bw_alloc ?_ _) | (with_reducible refine bw_step ?_ (by with_reducible assumption)) | (with_reducible refine Below.alloc ?_ ?_ _) | (with_reducible refine Below.drew ?_) | (with_reducible refine below_drewN ?_ _) | (with_reducible refine Below.setCell ?_ ?_ _) | (with_reducible refine below_step ?_ (by with_reducible assumption) ?_) | (with_reducible exact Nat.le_refl _) | omega | (simp; omega) | (simp; done))))) true HF.out).mono ?_
        rintro e w' ⟨rfl, rfl⟩
        go_wp2_with fail
        refine (few_any24 _ _ _ ls _ (by omega) (HT.out.below (by (repeat' (first | (with_reducible exact Below.refl _ _) | (with_reducible assumption) | (with_reducible exact Bw.out (by with_reducible assumption)) | (with_reducible refine bw_alloc ?_ _) | (with_reducible refine bw_step ?_ (by with_reducible assumption)) | (with_reducible refine Below.alloc ?_ ?_ _) | (with_reducible refine Below.drew ?_) | (with_reducible refine below_drewN ?_ _) | (with_reducible refine Below.setCell ?_ ?_ _) | (with_reducible refine below_step ?_ (by with_reducible assumption) ?_) | (with_reducible exact Nat.le_refl _) | omega | (simp; omega) | (simp; done))))) false HF2.out).mono ?_
        rintro e w' ⟨rfl, rfl⟩
        go_wp2_with fail
        go_ret
        refine ⟨(by first | rfl | exact ret_bool (by first | rfl | (simp; done) | (simp; omega))), ?_⟩
        (repeat' (first | (with_reducible exact Below.refl _ _) | (with_reducible assumption) | (with_reducible exact Bw.out (by with_reducible assumption)) | (with_reducible refine bw_alloc ?_ _) | (with_reducible refine bw_step ?_ (by with_reducible assumption)) | (with_reducible refine Below.alloc ?_ ?_ _) | (with_reducible refine Below.drew ?_) | (with_reducible refine below_drewN ?_ _) | (with_reducible refine Below.setCell ?_ ?_ _) | (with_reducible refine below_step ?_ (by with_reducible assumption) ?_) | (with_reducible exact Nat.le_refl _) | omega | (simp; omega) | (simp; done)))
      | true =>
        cases hpl : plB l ls c most with
        | false =>
          have HPL := Lib.hid hpl
          clear hpl
          go_enter Try.func7, Try.ntmps7
          go_wp2_with fail
          refine (a_head_any _).mono ?_
          rintro e w1 ⟨rfl, hb1⟩
          have HB1 : Below w.heap.size w w1 := by (repeat' (first | (with_reducible exact Below.refl _ _) | (with_reducible assumption) | (with_reducible exact Bw.out (by with_reducible assumption)) | (with_reducible refine bw_alloc ?_ _) | (with_reducible refine bw_step ?_ (by with_reducible assumption)) | (with_reducible refine Below.alloc ?_ ?_ _) | (with_reducible refine Below.drew ?_) | (with_reducible refine below_drewN ?_ _) | (with_reducible refine Below.setCell ?_ ?_ _) | (with_reducible refine below_step ?_ (by with_reducible assumption) ?_) | (with_reducible exact Nat.le_refl _) | omega | (simp; omega) | (simp; done)))
          go_wp2_with fail
          refine (R_few_any _ _ _ l _ (by omega) (HS.out.below (by (repeat' (first | (with_reducible exact Below.refl _ _) | (with_reducible assumption) | (with_reducible exact Bw.out (by with_reducible assumption)) | (with_reducible refine bw_alloc ?_ _) | (with_reducible refine bw_step ?_ (by with_reducible assumption)) | (with_reducible refine Below.alloc ?_ ?_ _) | (with_reducible refine Below.drew ?_) | (with_reducible refine below_drewN ?_ _) | (with_reducible refine Below.setCell ?_ ?_ _) | (with_reducible refine below_step ?_ (by with_reducible assumption) ?_) | (with_reducible exact Nat.le_refl _) | omega | (simp; omega) | (simp; done))))) true HF.out).mono ?_
          rintro e w' ⟨rfl, rfl⟩
          go_wp2_with fail
          refine (few_any24 _ _ _ ls _ (by omega) (HT.out.below (by (repeat' (first | (with_reducible exact Below.refl _ _) | (with_reducible assumption) | (with_reducible exact Bw.out (by with_reducible assumption)) | (with_reducible refine bw_alloc ?_ _) | (with_reducible refine bw_step ?_ (by with_reducible assumption)) | (with_reducible refine Below.alloc ?_ ?_ _) | (with_reducible refine Below.drew ?_) | (with_reducible refine below_drewN ?_ _) | (with_reducible refine Below.setCell ?_ ?_ _) | (with_reducible refine below_step ?_ (by with_reducible assumption) ?_) | (with_reducible exact Nat.le_refl _) | omega | (simp; omega) | (simp; done))))) true HF2.out).mono ?_
          rintro e w' ⟨rfl, rfl⟩
          go_wp2_with fail
          refine (Plan_arg a b n cap m capm l ls c most _ (by omega) (by omega) (HS.out.below (by (repeat' (first | (with_reducible exact Below.refl _ _) | (with_reducible assumption) | (with_reducible exact Bw.out (by with_reducible assumption)) | (with_reducible refine bw_alloc ?_ _) | (with_reducible refine bw_step ?_ (by with_reducible assumption)) | (with_reducible refine Below.alloc ?_ ?_ _) | (with_reducible refine Below.drew ?_) | (with_reducible refine below_drewN ?_ _) | (with_reducible refine Below.setCell ?_ ?_ _) | (with_reducible refine below_step ?_ (by with_reducible assumption) ?_) | (with_reducible exact Nat.le_refl _) | omega | (simp; omega) | (simp; done))))) HC.out (HT.out.below (by (repeat' (first | (with_reducible exact Below.refl _ _) | (with_reducible assumption) | (with_reducible exact Bw.out (by with_reducible assumption)) | (with_reducible refine bw_alloc ?_ _) | (with_reducible refine bw_step ?_ (by with_reducible assumption)) | (with_reducible refine Below.alloc ?_ ?_ _) | (with_reducible refine Below.drew ?_) | (with_reducible refine below_drewN ?_ _) | (with_reducible refine Below.setCell ?_ ?_ _) | (with_reducible refine below_step ?_ (by with_reducible assumption) ?_) | (with_reducible exact Nat.le_refl _) | omega | (simp; omega) | (simp; done))))) HPL.out).mono ?_
          rintro e w2 ⟨rfl, hb2⟩
          have HB2 : Below w.heap.size w w2 := by (repeat' (first | (with_reducible exact Below.refl _ _) | (with_reducible assumption) | (with_reducible exact Bw.out (by with_reducible assumption)) | (with_reducible refine bw_alloc ?_ _) | (with_reducible refine bw_step ?_ (by with_reducible assumption)) | (with_reducible refine Below.alloc ?_ ?_ _) | (with_reducible refine Below.drew ?_) | (with_reducible refine below_drewN ?_ _) | (with_reducible refine Below.setCell ?_ ?_ _) | (with_reducible refine below_step ?_ (by with_reducible assumption) ?_) | (with_reducible exact Nat.le_refl _) | omega | (simp; omega) | (simp; done)))
          clear hb1 HB1
          go_wp2_with fail
          go_ret
          refine ⟨(by first | rfl | exact ret_bool (by first | rfl | (simp; done) | (simp; omega))), ?_⟩
          (repeat' (first | (with_reducible exact Below.refl _ _) | (with_reducible assumption) | (with_reducible exact Bw.out (by with_reducible assumption)) | (with_reducible refine bw_alloc ?_ _) | (with_reducible refine bw_step ?_ (by with_reducible assumption)) | (with_reducible refine Below.alloc ?_ ?_ _) | (with_reducible refine Below.drew ?_) | (with_reducible refine below_drewN ?_ _) | (with_reducible refine Below.setCell ?_ ?_ _) | (with_reducible refine below_step ?_ (by with_reducible assumption) ?_) | (with_reducible exact Nat.le_refl _) | omega | (simp; omega) | (simp; done)))
        | true =>
          have HPL := Lib.hid hpl
          obtain ⟨q1, ⟨cN, rfl, hc30⟩, ⟨p7, p8⟩, q4, q5⟩ := plB_parts hpl
          have hmn : m = n := by have := HL.out; have := HL2.out; omega
          subst hmn
          have HN := Lib.hid q1
          have HSH := Lib.hid q5
          have HNBB : Hid (nightsB ((l.take m).map bareN) = true) := nightsB_bare q1 m
          have HML : Hid ((((l.take m).map bareN).map (wkN cN)).length = m) := by
            show _ = _
            rw [List.length_map, List.length_map, List.length_take, HL.out]; omega
          clear hpl q1 q4 q5
          rcases first_over most l with hall | ⟨i, x, hx, hov, hpre⟩
          · have HALL := Lib.hid hall
            clear hall
            go_enter Try.func7, Try.ntmps7
            go_wp2_with fail
            refine (a_head_any _).mono ?_
            rintro e w1 ⟨rfl, hb1⟩
            have HB1 : Below w.heap.size w w1 := by (repeat' (first | (with_reducible exact Below.refl _ _) | (with_reducible assumption) | (with_reducible exact Bw.out (by with_reducible assumption)) | (with_reducible refine bw_alloc ?_ _) | (with_reducible refine bw_step ?_ (by with_reducible assumption)) | (with_reducible refine Below.alloc ?_ ?_ _) | (with_reducible refine Below.drew ?_) | (with_reducible refine below_drewN ?_ _) | (with_reducible refine Below.setCell ?_ ?_ _) | (with_reducible refine below_step ?_ (by with_reducible assumption) ?_) | (with_reducible exact Nat.le_refl _) | omega | (simp; omega) | (simp; done)))
            go_wp2_with fail
            refine (R_few_any _ _ _ l _ (by omega) (HS.out.below (by (repeat' (first | (with_reducible exact Below.refl _ _) | (with_reducible assumption) | (with_reducible exact Bw.out (by with_reducible assumption)) | (with_reducible refine bw_alloc ?_ _) | (with_reducible refine bw_step ?_ (by with_reducible assumption)) | (with_reducible refine Below.alloc ?_ ?_ _) | (with_reducible refine Below.drew ?_) | (with_reducible refine below_drewN ?_ _) | (with_reducible refine Below.setCell ?_ ?_ _) | (with_reducible refine below_step ?_ (by with_reducible assumption) ?_) | (with_reducible exact Nat.le_refl _) | omega | (simp; omega) | (simp; done))))) true HF.out).mono ?_
            rintro e w' ⟨rfl, rfl⟩
            go_wp2_with fail
            refine (few_any24 _ _ _ ls _ (by omega) (HT.out.below (by (repeat' (first | (with_reducible exact Below.refl _ _) | (with_reducible assumption) | (with_reducible exact Bw.out (by with_reducible assumption)) | (with_reducible refine bw_alloc ?_ _) | (with_reducible refine bw_step ?_ (by with_reducible assumption)) | (with_reducible refine Below.alloc ?_ ?_ _) | (with_reducible refine Below.drew ?_) | (with_reducible refine below_drewN ?_ _) | (with_reducible refine Below.setCell ?_ ?_ _) | (with_reducible refine below_step ?_ (by with_reducible assumption) ?_) | (with_reducible exact Nat.le_refl _) | omega | (simp; omega) | (simp; done))))) true HF2.out).mono ?_
            rintro e w' ⟨rfl, rfl⟩
            go_wp2_with fail
            refine (Plan_okA a b m cap capm l ls cN most _ (HS.out.below (by (repeat' (first | (with_reducible exact Below.refl _ _) | (with_reducible assumption) | (with_reducible exact Bw.out (by with_reducible assumption)) | (with_reducible refine bw_alloc ?_ _) | (with_reducible refine bw_step ?_ (by with_reducible assumption)) | (with_reducible refine Below.alloc ?_ ?_ _) | (with_reducible refine Below.drew ?_) | (with_reducible refine below_drewN ?_ _) | (with_reducible refine Below.setCell ?_ ?_ _) | (with_reducible refine below_step ?_ (by with_reducible assumption) ?_) | (with_reducible exact Nat.le_refl _) | omega | (simp; omega) | (simp; done))))) HC.out (HT.out.below (by (repeat' (first | (with_reducible exact Below.refl _ _) | (with_reducible assumption) | (with_reducible exact Bw.out (by with_reducible assumption)) | (with_reducible refine bw_alloc ?_ _) | (with_reducible refine bw_step ?_ (by with_reducible assumption)) | (with_reducible refine Below.alloc ?_ ?_ _) | (with_reducible refine Below.drew ?_) | (with_reducible refine below_drewN ?_ _) | (with_reducible refine Below.setCell ?_ ?_ _) | (with_reducible refine below_step ?_ (by with_reducible assumption) ?_) | (with_reducible exact Nat.le_refl _) | omega | (simp; omega) | (simp; done))))) HPL.out HALL.out).mono ?_
            rintro e w2 ⟨ad, cp, L, rfl, N2, HC2, HT2, hb2⟩
            have HB2 : Below w.heap.size w w2 := by (repeat' (first | (with_reducible exact Below.refl _ _) | (with_reducible assumption) | (with_reducible exact Bw.out (by with_reducible assumption)) | (with_reducible refine bw_alloc ?_ _) | (with_reducible refine bw_step ?_ (by with_reducible assumption)) | (with_reducible refine Below.alloc ?_ ?_ _) | (with_reducible refine Below.drew ?_) | (with_reducible refine below_drewN ?_ _) | (with_reducible refine Below.setCell ?_ ?_ _) | (with_reducible refine below_step ?_ (by with_reducible assumption) ?_) | (with_reducible exact Nat.le_refl _) | omega | (simp; omega) | (simp; done)))
            clear hb1 HB1
            go_wp2_with fail
            refine (rBare_any a m cap l _ (by omega) (HS.out.below (by (repeat' (first | (with_reducible exact Below.refl _ _) | (with_reducible assumption) | (with_reducible exact Bw.out (by with_reducible assumption)) | (with_reducible refine bw_alloc ?_ _) | (with_reducible refine bw_step ?_ (by with_reducible assumption)) | (with_reducible refine Below.alloc ?_ ?_ _) | (with_reducible refine Below.drew ?_) | (with_reducible refine below_drewN ?_ _) | (with_reducible refine Below.setCell ?_ ?_ _) | (with_reducible refine below_step ?_ (by with_reducible assumption) ?_) | (with_reducible exact Nat.le_refl _) | omega | (simp; omega) | (simp; done)))))).mono ?_
            rintro e w3 ⟨ab, cb, rfl, HO, hb3⟩
            have R_s_3 : Row w3 (w2.heap.size) [.int .i64 (0), .int .i64 (0), .slice none 0 0, .slice none 0 0] := by (repeat' (first | (with_reducible assumption) | (with_reducible refine Row.new' _ _ _ (by first | rfl | (simp; done) | omega)) | (with_reducible refine Row.alloc ?_ _) | (with_reducible refine Row.drew ?_) | (with_reducible refine Row.drewN ?_ _) | (with_reducible refine Row.step ?_ (by with_reducible assumption)) | (with_reducible refine Row.set2' ?_ _ _; first | exact ⟨_, _, by with_reducible assumption⟩ | exact ⟨_, _, Row.alloc (by with_reducible assumption) _⟩ | exact ⟨_, _, Row.alloc (Row.alloc (by with_reducible assumption) _) _⟩) | (with_reducible refine Row.other ?_ (by first | omega | (simp; done) | (simp; omega)) _)))
            have c_s_0_3 := R_s_3.cell 0 rfl
            have c_s_1_3 := R_s_3.cell 1 rfl
            have c_s_2_3 := R_s_3.cell 2 rfl
            have c_s_3_3 := R_s_3.cell 3 rfl
            have l_s_3 := R_s_3.lt
            replace N2 := N2.step (show Below w2.heap.size w2 w3 by (repeat' (first | (with_reducible exact Below.refl _ _) | (with_reducible assumption) | (with_reducible exact Bw.out (by with_reducible assumption)) | (with_reducible refine bw_alloc ?_ _) | (with_reducible refine bw_step ?_ (by with_reducible assumption)) | (with_reducible refine Below.alloc ?_ ?_ _) | (with_reducible refine Below.drew ?_) | (with_reducible refine below_drewN ?_ _) | (with_reducible refine Below.setCell ?_ ?_ _) | (with_reducible refine below_step ?_ (by with_reducible assumption) ?_) | (with_reducible exact Nat.le_refl _) | omega | (simp; omega) | (simp; done))))
            have HB3 : Below w.heap.size w w3 := by (repeat' (first | (with_reducible exact Below.refl _ _) | (with_reducible assumption) | (with_reducible exact Bw.out (by with_reducible assumption)) | (with_reducible refine bw_alloc ?_ _) | (with_reducible refine bw_step ?_ (by with_reducible assumption)) | (with_reducible refine Below.alloc ?_ ?_ _) | (with_reducible refine Below.drew ?_) | (with_reducible refine below_drewN ?_ _) | (with_reducible refine Below.setCell ?_ ?_ _) | (with_reducible refine below_step ?_ (by with_reducible assumption) ?_) | (with_reducible exact Nat.le_refl _) | omega | (simp; omega) | (simp; done)))
            clear hb2 HB2
            have NB := HO.sl (bareL_in _ _ _)
            go_wp2_with fail
            refine (Nights_any ab m cb ((l.take m).map bareN) cN _ NB.1 (bareL_caps _ _) HNBB.out hc30).mono ?_
            rintro e w4 ⟨v, rfl, V, hb4⟩
            have R_s_4 : Row w4 (w2.heap.size) [.int .i64 (0), .int .i64 (0), .slice none 0 0, .slice none 0 0] := by (repeat' (first | (with_reducible assumption) | (with_reducible refine Row.new' _ _ _ (by first | rfl | (simp; done) | omega)) | (with_reducible refine Row.alloc ?_ _) | (with_reducible refine Row.drew ?_) | (with_reducible refine Row.drewN ?_ _) | (with_reducible refine Row.step ?_ (by with_reducible assumption)) | (with_reducible refine Row.set2' ?_ _ _; first | exact ⟨_, _, by with_reducible assumption⟩ | exact ⟨_, _, Row.alloc (by with_reducible assumption) _⟩ | exact ⟨_, _, Row.alloc (Row.alloc (by with_reducible assumption) _) _⟩) | (with_reducible refine Row.other ?_ (by first | omega | (simp; done) | (simp; omega)) _)))
            have c_s_0_4 := R_s_4.cell 0 rfl
            have c_s_1_4 := R_s_4.cell 1 rfl
            have c_s_2_4 := R_s_4.cell 2 rfl
            have c_s_3_4 := R_s_4.cell 3 rfl
            have l_s_4 := R_s_4.lt
            replace N2 := N2.step (show Below w3.heap.size w3 w4 by (repeat' (first | (with_reducible exact Below.refl _ _) | (with_reducible assumption) | (with_reducible exact Bw.out (by with_reducible assumption)) | (with_reducible refine bw_alloc ?_ _) | (with_reducible refine bw_step ?_ (by with_reducible assumption)) | (with_reducible refine Below.alloc ?_ ?_ _) | (with_reducible refine Below.drew ?_) | (with_reducible refine below_drewN ?_ _) | (with_reducible refine Below.setCell ?_ ?_ _) | (with_reducible refine below_step ?_ (by with_reducible assumption) ?_) | (with_reducible exact Nat.le_refl _) | omega | (simp; omega) | (simp; done))))
            have HB4 : Below w.heap.size w w4 := by (repeat' (first | (with_reducible exact Below.refl _ _) | (with_reducible assumption) | (with_reducible exact Bw.out (by with_reducible assumption)) | (with_reducible refine bw_alloc ?_ _) | (with_reducible refine bw_step ?_ (by with_reducible assumption)) | (with_reducible refine Below.alloc ?_ ?_ _) | (with_reducible refine Below.drew ?_) | (with_reducible refine below_drewN ?_ _) | (with_reducible refine Below.setCell ?_ ?_ _) | (with_reducible refine below_step ?_ (by with_reducible assumption) ?_) | (with_reducible exact Nat.le_refl _) | omega | (simp; omega) | (simp; done)))
            clear R_s_3 c_s_0_3 c_s_1_3 c_s_2_3 c_s_3_3 hb3 HB3
            obtain ⟨am, dm, rfl, KM⟩ := V.sized m HML.out
            clear NB HO V
            go_wp2_with fail
            go_loopw [90] (fun i wr => ∃ k : Nat, k ≤ m ∧ i = .int .i64 k ∧ Hid (w4 = wr)) (fun i _ => m - (intOf i).toNat)
            case atStart => exact ⟨0, Nat.zero_le _, rfl, by first | exact trivial | exact Lib.hid rfl⟩
            case round =>
              obtain ⟨k, hk, rfl, hW⟩ := hrel
              have hW2 : w4 = wr := hW.out
              subst hW2
              by_cases hlt : k < m
              · obtain ⟨x, b1, off1, hx, _, _, _, _, _, _, _⟩ := HS.out.get hlt
                obtain ⟨b0, off0, z, hpa0, _, cz, gz, _, _⟩ := KM.sl.get hlt
                subst hpa0
                have h1 := bare_wk (c := cN) hlt hx
                rw [gz.out] at h1
                have h2 := HALL.out k x hx
                have h3 : z ≤ most := by omega
                have i1 : (0 : Int) ≤ (k : Int) := by omega
                have i2 : (k : Int) < (m : Int) := by omega
                clear gz h1 h2 hx
                go_wp2_with fail
                go_roundw
                case rel => exact ⟨k + 1, by omega, by go_num, by first | exact trivial | exact hW⟩
                case measure => simp [intOf]; omega
              · obtain rfl : m = k := by omega
                clear hlt hk
                go_wp2_with fail
                refine (R_sameScene 0 0 0 0 none none none none 0 0 0 0 0 0 0 0 [] [] [] [] _ (SlC.nil _) (SlC.nil _) (SlC.nil _) (SlC.nil _) (by omega) (by omega) (by omega) (by omega) true (by simp [sameSc])).mono ?_
                rintro e w5 ⟨rfl, hb5⟩
                have R_s_5 : Row w5 (w2.heap.size) [.int .i64 (0), .int .i64 (0), .slice none 0 0, .slice none 0 0] := by (repeat' (first | (with_reducible assumption) | (with_reducible refine Row.new' _ _ _ (by first | rfl | (simp; done) | omega)) | (with_reducible refine Row.alloc ?_ _) | (with_reducible refine Row.drew ?_) | (with_reducible refine Row.drewN ?_ _) | (with_reducible refine Row.step ?_ (by with_reducible assumption)) | (with_reducible refine Row.set2' ?_ _ _; first | exact ⟨_, _, by with_reducible assumption⟩ | exact ⟨_, _, Row.alloc (by with_reducible assumption) _⟩ | exact ⟨_, _, Row.alloc (Row.alloc (by with_reducible assumption) _) _⟩) | (with_reducible refine Row.other ?_ (by first | omega | (simp; done) | (simp; omega)) _)))
                have c_s_0_5 := R_s_5.cell 0 rfl
                have c_s_1_5 := R_s_5.cell 1 rfl
                have c_s_2_5 := R_s_5.cell 2 rfl
                have c_s_3_5 := R_s_5.cell 3 rfl
                have l_s_5 := R_s_5.lt
                replace N2 := N2.step (show Below w4.heap.size w4 w5 by (repeat' (first | (with_reducible exact Below.refl _ _) | (with_reducible assumption) | (with_reducible exact Bw.out (by with_reducible assumption)) | (with_reducible refine bw_alloc ?_ _) | (with_reducible refine bw_step ?_ (by with_reducible assumption)) | (with_reducible refine Below.alloc ?_ ?_ _) | (with_reducible refine Below.drew ?_) | (with_reducible refine below_drewN ?_ _) | (with_reducible refine Below.setCell ?_ ?_ _) | (with_reducible refine below_step ?_ (by with_reducible assumption) ?_) | (with_reducible exact Nat.le_refl _) | omega | (simp; omega) | (simp; done))))
                replace KM := KM.step (show Below w4.heap.size w4 w5 by (repeat' (first | (with_reducible exact Below.refl _ _) | (with_reducible assumption) | (with_reducible exact Bw.out (by with_reducible assumption)) | (with_reducible refine bw_alloc ?_ _) | (with_reducible refine bw_step ?_ (by with_reducible assumption)) | (with_reducible refine Below.alloc ?_ ?_ _) | (with_reducible refine Below.drew ?_) | (with_reducible refine below_drewN ?_ _) | (with_reducible refine Below.setCell ?_ ?_ _) | (with_reducible refine below_step ?_ (by with_reducible assumption) ?_) | (with_reducible exact Nat.le_refl _) | omega | (simp; omega) | (simp; done))))
                have HB5 : Below w.heap.size w w5 := by (repeat' (first | (with_reducible exact Below.refl _ _) | (with_reducible assumption) | (with_reducible exact Bw.out (by with_reducible assumption)) | (with_reducible refine bw_alloc ?_ _) | (with_reducible refine bw_step ?_ (by with_reducible assumption)) | (with_reducible refine Below.alloc ?_ ?_ _) | (with_reducible refine Below.drew ?_) | (with_reducible refine below_drewN ?_ _) | (with_reducible refine Below.setCell ?_ ?_ _) | (with_reducible refine below_step ?_ (by with_reducible assumption) ?_) | (with_reducible exact Nat.le_refl _) | omega | (simp; omega) | (simp; done)))
                clear R_s_4 c_s_0_4 c_s_1_4 c_s_2_4 c_s_3_4 hb4 HB4
                have HN5 := Lib.hid N2
                have HB5' := Lib.hid HB5
                clear N2 KM
                go_wp2_with fail
                clear c_s_0_5 c_s_1_5 c_s_2_5 c_s_3_5 R_s_5 l_s_5 hb5 HB5
                go_loopw [9, 133] (fun up i wr => ∃ k : Nat, k ≤ m ∧ i = .int .i64 k ∧ up = .bool true ∧ Hid (Below w5.heap.size w5 wr)) (fun _ i _ => m - (intOf i).toNat)
                case atStart => exact ⟨0, Nat.zero_le _, rfl, rfl, Below.refl _ _⟩
                case round =>
                  obtain ⟨k, hk, rfl, rfl, hB⟩ := hrel
                  have hBw : Below w.heap.size w wr := HB5'.out.trans (hB.out.mono HB5'.out.size)
                  by_cases hlt : k < m
                  · obtain ⟨y, by0, offy, hy, hpy, hby, KY, hyn, y0, y1, y2⟩ := (HN5.out.step hB.out).night HC2.out hlt
                    obtain ⟨x, bx, offx, hx, hpx, hbx, KX, hxn, x0, x1, x2⟩ := (HS.out.step hBw).night HC.out hlt
                    obtain ⟨z, bz, offz, hz, hpz, hbz, KZ, z0⟩ := (HT.out.step hBw).get hlt
                    subst hpy hpx hpz
                    obtain ⟨yr, ys, ya, yn, yc, yz⟩ := y
                    obtain ⟨xr, xs, xa, xn, xc, xz⟩ := x
                    have h1 : (L.map triN)[k]? = some (xr, xs, divA z.zs cN (xr + most - xs)) := by rw [HT2.out]; exact plT_at hx.out hz
                    rw [List.getElem?_map, hy.out] at h1
                    simp only [Option.map_some, triN, Option.some.injEq, Prod.mk.injEq] at h1
                    obtain ⟨rfl, rfl, h1⟩ := h1
                    have hnx := nightsB_at HN.out hx.out
                    obtain ⟨_, _, ⟨p1, p2⟩, p3, p4⟩ := nightB_parts hnx
                    have hsx := HALL.out k _ hx.out
                    obtain ⟨g1, g2⟩ := sharesB_in (HSH.out k z hz)
                    obtain ⟨sA1, sA, _⟩ := usA_sha24 (cN := cN) (most := most) g1 g2 ⟨p1, p2⟩ ⟨p3, p4⟩ ⟨p7, p8⟩ hc30 hsx
                    rw [← h1] at sA
                    have hyl : yz.length = yn := KY.out.1
                    have hyi : shIn yz := by rw [h1]; exact divA_in g2
                    have hyt : topS yz cN ≤ yr + most - ys := by rw [h1]; exact divA_top g2 (by simp at hsx; omega)
                    obtain ⟨X, hX⟩ : ∃ X, wkI yr ys yz cN = X := ⟨_, rfl⟩
                    have hXm : X ≤ most := by rw [← hX]; unfold wkI; simp at p1 p2 p3 p4; omega
                    have hX9 := wk_ok (waE_of hyi (by rw [hyl]; have := (sharesB_in (HSH.out k z hz)).1; have h9 := congrArg List.length h1; rw [divA_length] at h9; omega) ⟨p1, p2⟩ ⟨p3, p4⟩ hc30) hX
                    have HX1 := Lib.hid hX9.1
                    have HX2 := Lib.hid hX9.2
                    have HSA1 : Hid (shaE yr ys z.zs cN most = 0) := sA1
                    have HSA2 : Hid (shaZ yr ys z.zs cN most = yz) := sA
                    have HYL := Lib.hid hyl
                    have hyn30 : yn ≤ 30 := by
                      have h9 := congrArg List.length h1
                      rw [divA_length] at h9
                      omega
                    have Y0 : CellAt wr by0 (offy + k * 3) (.int .i64 yr) := y0
                    have Y1 : CellAt wr by0 (offy + k * 3 + 1) (.int .i64 ys) := y1
                    have Y2 : CellAt wr by0 (offy + k * 3 + 2) (.slice ya yn yc) := y2
                    have X0 : CellAt wr bx (offx + k * 3) (.int .i64 yr) := x0
                    have X1 : CellAt wr bx (offx + k * 3 + 1) (.int .i64 ys) := x1
                    have Z0 : CellAt wr bz (offz + k) (.slice z.at' z.n z.cap) := z0
                    have KY3 : SlC wr ya yn yc yz := KY.out
                    have v0 := Y0.out
                    have v1 := Y1.out
                    have v2 := Y2.out
                    have i1 : (0 : Int) ≤ (k : Int) := by omega
                    have i2 : (k : Int) < (m : Int) := by omega
                    have hsz := hB.out.size
                    clear y0 y1 y2 x0 x1 x2 z0 KY KX hxn hyn hx hy hz h1 hnx p1 p2 p3 p4 hsx g1 g2 sA1 sA hyl hyi hyt hX hX9 hBw hby hbx hbz Y0 Y1 Y2
                    go_upto_region 21 with fail
                    obtain ⟨w6, hw6⟩ : ∃ W, wr.alloc (.cells #[.int .i64 yr, .int .i64 ys, .slice ya yn yc] 24) = W := ⟨_, rfl⟩
                    rw [hw6]
                    have hB6 : Below wr.heap.size wr w6 := by rw [← hw6]; (repeat' (first | (with_reducible exact Below.refl _ _) | (with_reducible assumption) | (with_reducible exact Bw.out (by with_reducible assumption)) | (with_reducible refine bw_alloc ?_ _) | (with_reducible refine bw_step ?_ (by with_reducible assumption)) | (with_reducible refine Below.alloc ?_ ?_ _) | (with_reducible refine Below.drew ?_) | (with_reducible refine below_drewN ?_ _) | (with_reducible refine Below.setCell ?_ ?_ _) | (with_reducible refine below_step ?_ (by with_reducible assumption) ?_) | (with_reducible exact Nat.le_refl _) | omega | (simp; omega) | (simp; done)))
                    have R6 : Row w6 wr.heap.size [.int .i64 yr, .int .i64 ys, .slice ya yn yc] := by rw [← hw6]; exact Row.new' _ _ _ rfl
                    obtain ⟨gy, hgy⟩ : ∃ g, wr.heap.size = g := ⟨_, rfl⟩
                    have X06 := X0.step hB6
                    have X16 := X1.step hB6
                    have Z06 := Z0.step hB6
                    have KY6 := KY3.step hB6
                    have KZ6 := KZ.step hB6
                    have HB6 : Hid (Below w5.heap.size w5 w6) := hB.out.trans (hB6.mono hsz)
                    rw [hgy] at R6 ⊢
                    clear hw6 hB6 X0 X1 Z0 KY3 KZ v0 v1 v2 hgy hB hsz
                    go_region_held3 (fun w' => w'.cell? ⟨bx, offx + k * 3, none⟩ = some (.int .i64 yr) ∧ w'.cell? ⟨bx, offx + k * 3 + 1, none⟩ = some (.int .i64 ys) ∧ w'.cell? ⟨bz, offz + k, none⟩ = some (.slice z.at' z.n z.cap) ∧ CellAt w' bx (offx + k * 3) (.int .i64 yr) ∧ CellAt w' bx (offx + k * 3 + 1) (.int .i64 ys) ∧ Row w' gy [.int .i64 yr, .int .i64 ys, .slice ya yn yc] ∧ SlC w' ya yn yc yz ∧ Bw w6.heap.size w6 w')
                      (((try go_split_ands); exact ⟨CellAt.out (by (repeat' (first | (with_reducible assumption) | (with_reducible refine CellAt.drew ?_) | (with_reducible refine CellAt.drewN ?_ _) | (with_reducible refine CellAt.alloc ?_ _) | (with_reducible refine CellAt.step ?_ (by with_reducible assumption))))), CellAt.out (by (repeat' (first | (with_reducible assumption) | (with_reducible refine CellAt.drew ?_) | (with_reducible refine CellAt.drewN ?_ _) | (with_reducible refine CellAt.alloc ?_ _) | (with_reducible refine CellAt.step ?_ (by with_reducible assumption))))), CellAt.out (by (repeat' (first | (with_reducible assumption) | (with_reducible refine CellAt.drew ?_) | (with_reducible refine CellAt.drewN ?_ _) | (with_reducible refine CellAt.alloc ?_ _) | (with_reducible refine CellAt.step ?_ (by with_reducible assumption))))), (by (repeat' (first | (with_reducible assumption) | (with_reducible refine CellAt.drew ?_) | (with_reducible refine CellAt.drewN ?_ _) | (with_reducible refine CellAt.alloc ?_ _) | (with_reducible refine CellAt.step ?_ (by with_reducible assumption))))), (by (repeat' (first | (with_reducible assumption) | (with_reducible refine CellAt.drew ?_) | (with_reducible refine CellAt.drewN ?_ _) | (with_reducible refine CellAt.alloc ?_ _) | (with_reducible refine CellAt.step ?_ (by with_reducible assumption))))), (by (repeat' (first | (with_reducible assumption) | (with_reducible refine Row.new' _ _ _ (by first | rfl | (simp; done) | omega)) | (with_reducible refine Row.alloc ?_ _) | (with_reducible refine Row.drew ?_) | (with_reducible refine Row.drewN ?_ _) | (with_reducible refine Row.step ?_ (by with_reducible assumption)) | (with_reducible refine Row.set2' ?_ _ _; first | exact ⟨_, _, by with_reducible assumption⟩ | exact ⟨_, _, Row.alloc (by with_reducible assumption) _⟩ | exact ⟨_, _, Row.alloc (Row.alloc (by with_reducible assumption) _) _⟩) | (with_reducible refine Row.other ?_ (by first | omega | (simp; done) | (simp; omega)) _)))), (by (repeat' (first | (with_reducible assumption) | (with_reducible refine SlC.drew ?_) | (with_reducible refine SlC.drewN ?_ _) | (with_reducible refine SlC.alloc ?_ _) | (with_reducible refine SlC.step ?_ (by with_reducible assumption))))), (by (repeat' (first | (with_reducible exact Below.refl _ _) | (with_reducible assumption) | (with_reducible exact Bw.out (by with_reducible assumption)) | (with_reducible refine bw_alloc ?_ _) | (with_reducible refine bw_step ?_ (by with_reducible assumption)) | (with_reducible refine Below.alloc ?_ ?_ _) | (with_reducible refine Below.drew ?_) | (with_reducible refine below_drewN ?_ _) | (with_reducible refine Below.setCell ?_ ?_ _) | (with_reducible refine below_step ?_ (by with_reducible assumption) ?_) | (with_reducible exact Nat.le_refl _) | omega | (simp; omega) | (simp; done))) : Below _ _ _)⟩))
                      (first | (go_at_call 14; (with_reducible refine (Shares_any yr ys cN most z.at' z.n z.cap z.zs _ (by (repeat' (first | (with_reducible assumption) | (with_reducible refine SlC.drew ?_) | (with_reducible refine SlC.drewN ?_ _) | (with_reducible refine SlC.alloc ?_ _) | (with_reducible refine SlC.step ?_ (by with_reducible assumption))))) 0 yz HSA1.out HSA2.out yn HYL.out).mono ?_); rintro e wx ⟨ad7, cp7, rfl, KD, hbx⟩; obtain ⟨hcx, hzx⟩ := bcell hbx; have hsx := hbx.size; (try simp at hsx); have hsy := bsize hbx))
                    rename_i hH
                    obtain ⟨_, _, _, X07, X17, R7, KY7, hHB⟩ := hH
                    have HB7 : Hid (Below w5.heap.size w5 wx) := HB6.out.trans (hHB.out.mono HB6.out.size)
                    have c70 := R7.cell 0 rfl
                    have c71 := R7.cell 1 rfl
                    have c72 := R7.cell 2 rfl
                    clear hcx hzx hsx hsy hHB X06 X16 Z06 KY6 KZ6 R6 HB6
                    go_wp2_with fail
                    refine (Walked_any yr ys cN ya yn yc yz _ KY7 (by omega) X 0 HX1.out HX2.out).mono ?_
                    rintro e w8 ⟨rfl, hb8⟩
                    have X08 := X07.step hb8
                    have X18 := X17.step hb8
                    have R8 := R7.step hb8
                    have KY8 := KY7.step hb8
                    have KD8 := KD.step hb8
                    have HB8 : Hid (Below w5.heap.size w5 w8) := HB7.out.trans (hb8.mono HB7.out.size)
                    have G0 : CellAt w8 gy 0 (.int .i64 yr) := R8.cell 0 rfl
                    have G1 : CellAt w8 gy 1 (.int .i64 ys) := R8.cell 1 rfl
                    have G2 : CellAt w8 gy 2 (.slice ya yn yc) := R8.cell 2 rfl
                    clear hb8 hbx X07 X17 R7 KY7 KD HB7 c70 c71 c72 R8
                    go_wp2_with fail
                    go_region_held3 (fun w' => w'.cell? ⟨bx, offx + k * 3, none⟩ = some (.int .i64 yr) ∧ w'.cell? ⟨bx, offx + k * 3 + 1, none⟩ = some (.int .i64 ys) ∧ w'.cell? ⟨gy, 0, none⟩ = some (.int .i64 yr) ∧ w'.cell? ⟨gy, 1, none⟩ = some (.int .i64 ys) ∧ w'.cell? ⟨gy, 2, none⟩ = some (.slice ya yn yc) ∧ Bw w8.heap.size w8 w')
                      (((try go_split_ands); exact ⟨CellAt.out (by (repeat' (first | (with_reducible assumption) | (with_reducible refine CellAt.drew ?_) | (with_reducible refine CellAt.drewN ?_ _) | (with_reducible refine CellAt.alloc ?_ _) | (with_reducible refine CellAt.step ?_ (by with_reducible assumption))))), CellAt.out (by (repeat' (first | (with_reducible assumption) | (with_reducible refine CellAt.drew ?_) | (with_reducible refine CellAt.drewN ?_ _) | (with_reducible refine CellAt.alloc ?_ _) | (with_reducible refine CellAt.step ?_ (by with_reducible assumption))))), CellAt.out (by (repeat' (first | (with_reducible assumption) | (with_reducible refine CellAt.drew ?_) | (with_reducible refine CellAt.drewN ?_ _) | (with_reducible refine CellAt.alloc ?_ _) | (with_reducible refine CellAt.step ?_ (by with_reducible assumption))))), CellAt.out (by (repeat' (first | (with_reducible assumption) | (with_reducible refine CellAt.drew ?_) | (with_reducible refine CellAt.drewN ?_ _) | (with_reducible refine CellAt.alloc ?_ _) | (with_reducible refine CellAt.step ?_ (by with_reducible assumption))))), CellAt.out (by (repeat' (first | (with_reducible assumption) | (with_reducible refine CellAt.drew ?_) | (with_reducible refine CellAt.drewN ?_ _) | (with_reducible refine CellAt.alloc ?_ _) | (with_reducible refine CellAt.step ?_ (by with_reducible assumption))))), (by (repeat' (first | (with_reducible exact Below.refl _ _) | (with_reducible assumption) | (with_reducible exact Bw.out (by with_reducible assumption)) | (with_reducible refine bw_alloc ?_ _) | (with_reducible refine bw_step ?_ (by with_reducible assumption)) | (with_reducible refine Below.alloc ?_ ?_ _) | (with_reducible refine Below.drew ?_) | (with_reducible refine below_drewN ?_ _) | (with_reducible refine Below.setCell ?_ ?_ _) | (with_reducible refine below_step ?_ (by with_reducible assumption) ?_) | (with_reducible exact Nat.le_refl _) | omega | (simp; omega) | (simp; done))) : Below _ _ _)⟩))
                      (first | (go_at_call 28; (with_reducible refine (R_same_c _ _ _ _ _ _ _ _ _ _ yz yz true _ (by (repeat' (first | (with_reducible assumption) | (with_reducible refine SlC.drew ?_) | (with_reducible refine SlC.drewN ?_ _) | (with_reducible refine SlC.alloc ?_ _) | (with_reducible refine SlC.step ?_ (by with_reducible assumption))))) (by (repeat' (first | (with_reducible assumption) | (with_reducible refine SlC.drew ?_) | (with_reducible refine SlC.drewN ?_ _) | (with_reducible refine SlC.alloc ?_ _) | (with_reducible refine SlC.step ?_ (by with_reducible assumption))))) (by simp [sameB])).mono ?_); rintro e wx ⟨rfl, hbx⟩; obtain ⟨hcx, hzx⟩ := bcell hbx; have hsx := hbx.size; (try simp at hsx); have hsy := bsize hbx))
                    rename_i hH2
                    obtain ⟨_, _, _, _, _, hHB2⟩ := hH2
                    go_wp2_with fail
                    go_roundw
                    case rel => exact ⟨k + 1, by omega, by go_num, rfl, HB8.out.trans (hHB2.out.mono HB8.out.size)⟩
                    case measure => simp [intOf]; omega
                  · have HB9 := Lib.hid hBw
                    go_wp2_with fail
                    go_ret
                    exact ⟨rfl, HB9.out⟩
          · have HX := Lib.hid hx
            have HPRE := Lib.hid hpre
            have him : i < m := by have := (List.getElem?_eq_some_iff.1 hx).1; have := HL.out; omega
            obtain ⟨W, hW⟩ : ∃ W, x.sold - x.rooms = W := ⟨_, rfl⟩
            have hWm : most < W := by omega
            have HWW := Lib.hid hW
            have HBW : Hid (max 0 (x.sold - x.rooms) = W) := by show _ = _; omega
            have hov2 := Lib.hid hov
            clear hx hpre hW hov
            go_enter Try.func7, Try.ntmps7
            go_wp2_with fail
            refine (a_head_any _).mono ?_
            rintro e w1 ⟨rfl, hb1⟩
            have HB1 : Below w.heap.size w w1 := by (repeat' (first | (with_reducible exact Below.refl _ _) | (with_reducible assumption) | (with_reducible exact Bw.out (by with_reducible assumption)) | (with_reducible refine bw_alloc ?_ _) | (with_reducible refine bw_step ?_ (by with_reducible assumption)) | (with_reducible refine Below.alloc ?_ ?_ _) | (with_reducible refine Below.drew ?_) | (with_reducible refine below_drewN ?_ _) | (with_reducible refine Below.setCell ?_ ?_ _) | (with_reducible refine below_step ?_ (by with_reducible assumption) ?_) | (with_reducible exact Nat.le_refl _) | omega | (simp; omega) | (simp; done)))
            go_wp2_with fail
            refine (R_few_any _ _ _ l _ (by omega) (HS.out.below (by (repeat' (first | (with_reducible exact Below.refl _ _) | (with_reducible assumption) | (with_reducible exact Bw.out (by with_reducible assumption)) | (with_reducible refine bw_alloc ?_ _) | (with_reducible refine bw_step ?_ (by with_reducible assumption)) | (with_reducible refine Below.alloc ?_ ?_ _) | (with_reducible refine Below.drew ?_) | (with_reducible refine below_drewN ?_ _) | (with_reducible refine Below.setCell ?_ ?_ _) | (with_reducible refine below_step ?_ (by with_reducible assumption) ?_) | (with_reducible exact Nat.le_refl _) | omega | (simp; omega) | (simp; done))))) true HF.out).mono ?_
            rintro e w' ⟨rfl, rfl⟩
            go_wp2_with fail
            refine (few_any24 _ _ _ ls _ (by omega) (HT.out.below (by (repeat' (first | (with_reducible exact Below.refl _ _) | (with_reducible assumption) | (with_reducible exact Bw.out (by with_reducible assumption)) | (with_reducible refine bw_alloc ?_ _) | (with_reducible refine bw_step ?_ (by with_reducible assumption)) | (with_reducible refine Below.alloc ?_ ?_ _) | (with_reducible refine Below.drew ?_) | (with_reducible refine below_drewN ?_ _) | (with_reducible refine Below.setCell ?_ ?_ _) | (with_reducible refine below_step ?_ (by with_reducible assumption) ?_) | (with_reducible exact Nat.le_refl _) | omega | (simp; omega) | (simp; done))))) true HF2.out).mono ?_
            rintro e w' ⟨rfl, rfl⟩
            go_wp2_with fail
            refine (Plan_okB a b m cap capm l ls cN most _ (HS.out.below (by (repeat' (first | (with_reducible exact Below.refl _ _) | (with_reducible assumption) | (with_reducible exact Bw.out (by with_reducible assumption)) | (with_reducible refine bw_alloc ?_ _) | (with_reducible refine bw_step ?_ (by with_reducible assumption)) | (with_reducible refine Below.alloc ?_ ?_ _) | (with_reducible refine Below.drew ?_) | (with_reducible refine below_drewN ?_ _) | (with_reducible refine Below.setCell ?_ ?_ _) | (with_reducible refine below_step ?_ (by with_reducible assumption) ?_) | (with_reducible exact Nat.le_refl _) | omega | (simp; omega) | (simp; done))))) HC.out (HT.out.below (by (repeat' (first | (with_reducible exact Below.refl _ _) | (with_reducible assumption) | (with_reducible exact Bw.out (by with_reducible assumption)) | (with_reducible refine bw_alloc ?_ _) | (with_reducible refine bw_step ?_ (by with_reducible assumption)) | (with_reducible refine Below.alloc ?_ ?_ _) | (with_reducible refine Below.drew ?_) | (with_reducible refine below_drewN ?_ _) | (with_reducible refine Below.setCell ?_ ?_ _) | (with_reducible refine below_step ?_ (by with_reducible assumption) ?_) | (with_reducible exact Nat.le_refl _) | omega | (simp; omega) | (simp; done))))) HPL.out i x HX.out hov2.out HPRE.out W HWW.out).mono ?_
            rintro e w2 ⟨a1, d1, a2, d2, rfl, K1, K2, hb2⟩
            have HB2 : Below w.heap.size w w2 := by (repeat' (first | (with_reducible exact Below.refl _ _) | (with_reducible assumption) | (with_reducible exact Bw.out (by with_reducible assumption)) | (with_reducible refine bw_alloc ?_ _) | (with_reducible refine bw_step ?_ (by with_reducible assumption)) | (with_reducible refine Below.alloc ?_ ?_ _) | (with_reducible refine Below.drew ?_) | (with_reducible refine below_drewN ?_ _) | (with_reducible refine Below.setCell ?_ ?_ _) | (with_reducible refine below_step ?_ (by with_reducible assumption) ?_) | (with_reducible exact Nat.le_refl _) | omega | (simp; omega) | (simp; done)))
            clear hb1 HB1
            go_wp2_with fail
            refine (rBare_any a m cap l _ (by omega) (HS.out.below (by (repeat' (first | (with_reducible exact Below.refl _ _) | (with_reducible assumption) | (with_reducible exact Bw.out (by with_reducible assumption)) | (with_reducible refine bw_alloc ?_ _) | (with_reducible refine bw_step ?_ (by with_reducible assumption)) | (with_reducible refine Below.alloc ?_ ?_ _) | (with_reducible refine Below.drew ?_) | (with_reducible refine below_drewN ?_ _) | (with_reducible refine Below.setCell ?_ ?_ _) | (with_reducible refine below_step ?_ (by with_reducible assumption) ?_) | (with_reducible exact Nat.le_refl _) | omega | (simp; omega) | (simp; done)))))).mono ?_
            rintro e w3 ⟨ab, cb, rfl, HO, hb3⟩
            have R_s_3 : Row w3 (w2.heap.size) [.int .i64 i, .int .i64 (W), .slice a1 0 d1, .slice a2 0 d2] := by (repeat' (first | (with_reducible assumption) | (with_reducible refine Row.new' _ _ _ (by first | rfl | (simp; done) | omega)) | (with_reducible refine Row.alloc ?_ _) | (with_reducible refine Row.drew ?_) | (with_reducible refine Row.drewN ?_ _) | (with_reducible refine Row.step ?_ (by with_reducible assumption)) | (with_reducible refine Row.set2' ?_ _ _; first | exact ⟨_, _, by with_reducible assumption⟩ | exact ⟨_, _, Row.alloc (by with_reducible assumption) _⟩ | exact ⟨_, _, Row.alloc (Row.alloc (by with_reducible assumption) _) _⟩) | (with_reducible refine Row.other ?_ (by first | omega | (simp; done) | (simp; omega)) _)))
            have c_s_0_3 := R_s_3.cell 0 rfl
            have c_s_1_3 := R_s_3.cell 1 rfl
            have c_s_2_3 := R_s_3.cell 2 rfl
            have c_s_3_3 := R_s_3.cell 3 rfl
            have l_s_3 := R_s_3.lt
            replace K1 := K1.step (show Below w2.heap.size w2 w3 by (repeat' (first | (with_reducible exact Below.refl _ _) | (with_reducible assumption) | (with_reducible exact Bw.out (by with_reducible assumption)) | (with_reducible refine bw_alloc ?_ _) | (with_reducible refine bw_step ?_ (by with_reducible assumption)) | (with_reducible refine Below.alloc ?_ ?_ _) | (with_reducible refine Below.drew ?_) | (with_reducible refine below_drewN ?_ _) | (with_reducible refine Below.setCell ?_ ?_ _) | (with_reducible refine below_step ?_ (by with_reducible assumption) ?_) | (with_reducible exact Nat.le_refl _) | omega | (simp; omega) | (simp; done))))
            replace K2 := K2.step (show Below w2.heap.size w2 w3 by (repeat' (first | (with_reducible exact Below.refl _ _) | (with_reducible assumption) | (with_reducible exact Bw.out (by with_reducible assumption)) | (with_reducible refine bw_alloc ?_ _) | (with_reducible refine bw_step ?_ (by with_reducible assumption)) | (with_reducible refine Below.alloc ?_ ?_ _) | (with_reducible refine Below.drew ?_) | (with_reducible refine below_drewN ?_ _) | (with_reducible refine Below.setCell ?_ ?_ _) | (with_reducible refine below_step ?_ (by with_reducible assumption) ?_) | (with_reducible exact Nat.le_refl _) | omega | (simp; omega) | (simp; done))))
            have HB3 : Below w.heap.size w w3 := by (repeat' (first | (with_reducible exact Below.refl _ _) | (with_reducible assumption) | (with_reducible exact Bw.out (by with_reducible assumption)) | (with_reducible refine bw_alloc ?_ _) | (with_reducible refine bw_step ?_ (by with_reducible assumption)) | (with_reducible refine Below.alloc ?_ ?_ _) | (with_reducible refine Below.drew ?_) | (with_reducible refine below_drewN ?_ _) | (with_reducible refine Below.setCell ?_ ?_ _) | (with_reducible refine below_step ?_ (by with_reducible assumption) ?_) | (with_reducible exact Nat.le_refl _) | omega | (simp; omega) | (simp; done)))
            clear hb2 HB2
            have NB := HO.sl (bareL_in _ _ _)
            go_wp2_with fail
            refine (Nights_any ab m cb ((l.take m).map bareN) cN _ NB.1 (bareL_caps _ _) HNBB.out hc30).mono ?_
            rintro e w4 ⟨v, rfl, V, hb4⟩
            have R_s_4 : Row w4 (w2.heap.size) [.int .i64 i, .int .i64 (W), .slice a1 0 d1, .slice a2 0 d2] := by (repeat' (first | (with_reducible assumption) | (with_reducible refine Row.new' _ _ _ (by first | rfl | (simp; done) | omega)) | (with_reducible refine Row.alloc ?_ _) | (with_reducible refine Row.drew ?_) | (with_reducible refine Row.drewN ?_ _) | (with_reducible refine Row.step ?_ (by with_reducible assumption)) | (with_reducible refine Row.set2' ?_ _ _; first | exact ⟨_, _, by with_reducible assumption⟩ | exact ⟨_, _, Row.alloc (by with_reducible assumption) _⟩ | exact ⟨_, _, Row.alloc (Row.alloc (by with_reducible assumption) _) _⟩) | (with_reducible refine Row.other ?_ (by first | omega | (simp; done) | (simp; omega)) _)))
            have c_s_0_4 := R_s_4.cell 0 rfl
            have c_s_1_4 := R_s_4.cell 1 rfl
            have c_s_2_4 := R_s_4.cell 2 rfl
            have c_s_3_4 := R_s_4.cell 3 rfl
            have l_s_4 := R_s_4.lt
            replace K1 := K1.step (show Below w3.heap.size w3 w4 by (repeat' (first | (with_reducible exact Below.refl _ _) | (with_reducible assumption) | (with_reducible exact Bw.out (by with_reducible assumption)) | (with_reducible refine bw_alloc ?_ _) | (with_reducible refine bw_step ?_ (by with_reducible assumption)) | (with_reducible refine Below.alloc ?_ ?_ _) | (with_reducible refine Below.drew ?_) | (with_reducible refine below_drewN ?_ _) | (with_reducible refine Below.setCell ?_ ?_ _) | (with_reducible refine below_step ?_ (by with_reducible assumption) ?_) | (with_reducible exact Nat.le_refl _) | omega | (simp; omega) | (simp; done))))
            replace K2 := K2.step (show Below w3.heap.size w3 w4 by (repeat' (first | (with_reducible exact Below.refl _ _) | (with_reducible assumption) | (with_reducible exact Bw.out (by with_reducible assumption)) | (with_reducible refine bw_alloc ?_ _) | (with_reducible refine bw_step ?_ (by with_reducible assumption)) | (with_reducible refine Below.alloc ?_ ?_ _) | (with_reducible refine Below.drew ?_) | (with_reducible refine below_drewN ?_ _) | (with_reducible refine Below.setCell ?_ ?_ _) | (with_reducible refine below_step ?_ (by with_reducible assumption) ?_) | (with_reducible exact Nat.le_refl _) | omega | (simp; omega) | (simp; done))))
            have HB4 : Below w.heap.size w w4 := by (repeat' (first | (with_reducible exact Below.refl _ _) | (with_reducible assumption) | (with_reducible exact Bw.out (by with_reducible assumption)) | (with_reducible refine bw_alloc ?_ _) | (with_reducible refine bw_step ?_ (by with_reducible assumption)) | (with_reducible refine Below.alloc ?_ ?_ _) | (with_reducible refine Below.drew ?_) | (with_reducible refine below_drewN ?_ _) | (with_reducible refine Below.setCell ?_ ?_ _) | (with_reducible refine below_step ?_ (by with_reducible assumption) ?_) | (with_reducible exact Nat.le_refl _) | omega | (simp; omega) | (simp; done)))
            clear R_s_3 c_s_0_3 c_s_1_3 c_s_2_3 c_s_3_3 hb3 HB3
            obtain ⟨am, dm, rfl, KM⟩ := V.sized m HML.out
            clear NB HO V
            go_wp2_with fail
            go_loopw [90] (fun q wr => ∃ k : Nat, k ≤ i ∧ q = .int .i64 k ∧ Hid (w4 = wr)) (fun q _ => m - (intOf q).toNat)
            case atStart => exact ⟨0, Nat.zero_le _, rfl, by first | exact trivial | exact Lib.hid rfl⟩
            case round =>
              obtain ⟨k, hk, rfl, hW⟩ := hrel
              have hW2 : w4 = wr := hW.out
              subst hW2
              have hlt : k < m := by omega
              obtain ⟨y, b1, off1, hy, _, _, _, _, _, _, _⟩ := HS.out.get hlt
              obtain ⟨b0, off0, z, hpa0, _, cz, gz, _, _⟩ := KM.sl.get hlt
              subst hpa0
              have h1 := bare_wk (c := cN) hlt hy
              rw [gz.out] at h1
              have i1 : (0 : Int) ≤ (k : Int) := by omega
              have i2 : (k : Int) < (m : Int) := by omega
              by_cases hki : k < i
              · have h2 := HPRE.out k y hki hy
                have h3 : z ≤ most := by omega
                clear gz h1 h2 hy
                go_wp2_with fail
                go_roundw
                case rel => exact ⟨k + 1, by omega, by go_num, by first | exact trivial | exact hW⟩
                case measure => simp [intOf]; omega
              · obtain rfl : i = k := by omega
                have h2 := HX.out
                rw [hy] at h2
                cases h2
                rw [HBW.out] at h1
                obtain rfl : W = z := by omega
                clear gz hy hki
                go_wp2_with fail
                refine (R_sameScene i W i W _ _ none none 0 0 0 0 _ _ 0 0 [] [] [] [] _ (K1.step (by (repeat' (first | (with_reducible exact Below.refl _ _) | (with_reducible assumption) | (with_reducible exact Bw.out (by with_reducible assumption)) | (with_reducible refine bw_alloc ?_ _) | (with_reducible refine bw_step ?_ (by with_reducible assumption)) | (with_reducible refine Below.alloc ?_ ?_ _) | (with_reducible refine Below.drew ?_) | (with_reducible refine below_drewN ?_ _) | (with_reducible refine Below.setCell ?_ ?_ _) | (with_reducible refine below_step ?_ (by with_reducible assumption) ?_) | (with_reducible exact Nat.le_refl _) | omega | (simp; omega) | (simp; done))))) (K2.step (by (repeat' (first | (with_reducible exact Below.refl _ _) | (with_reducible assumption) | (with_reducible exact Bw.out (by with_reducible assumption)) | (with_reducible refine bw_alloc ?_ _) | (with_reducible refine bw_step ?_ (by with_reducible assumption)) | (with_reducible refine Below.alloc ?_ ?_ _) | (with_reducible refine Below.drew ?_) | (with_reducible refine below_drewN ?_ _) | (with_reducible refine Below.setCell ?_ ?_ _) | (with_reducible refine below_step ?_ (by with_reducible assumption) ?_) | (with_reducible exact Nat.le_refl _) | omega | (simp; omega) | (simp; done))))) (SlC.nil _) (SlC.nil _) (by omega) (by omega) (by omega) (by omega) true (by simp [sameSc])).mono ?_
                rintro e w5 ⟨rfl, hb5⟩
                have R_s_5 : Row w5 (w2.heap.size) [.int .i64 i, .int .i64 (W), .slice a1 0 d1, .slice a2 0 d2] := by (repeat' (first | (with_reducible assumption) | (with_reducible refine Row.new' _ _ _ (by first | rfl | (simp; done) | omega)) | (with_reducible refine Row.alloc ?_ _) | (with_reducible refine Row.drew ?_) | (with_reducible refine Row.drewN ?_ _) | (with_reducible refine Row.step ?_ (by with_reducible assumption)) | (with_reducible refine Row.set2' ?_ _ _; first | exact ⟨_, _, by with_reducible assumption⟩ | exact ⟨_, _, Row.alloc (by with_reducible assumption) _⟩ | exact ⟨_, _, Row.alloc (Row.alloc (by with_reducible assumption) _) _⟩) | (with_reducible refine Row.other ?_ (by first | omega | (simp; done) | (simp; omega)) _)))
                have c_s_0_5 := R_s_5.cell 0 rfl
                have c_s_1_5 := R_s_5.cell 1 rfl
                have c_s_2_5 := R_s_5.cell 2 rfl
                have c_s_3_5 := R_s_5.cell 3 rfl
                have l_s_5 := R_s_5.lt
                replace K1 := K1.step (show Below w4.heap.size w4 w5 by (repeat' (first | (with_reducible exact Below.refl _ _) | (with_reducible assumption) | (with_reducible exact Bw.out (by with_reducible assumption)) | (with_reducible refine bw_alloc ?_ _) | (with_reducible refine bw_step ?_ (by with_reducible assumption)) | (with_reducible refine Below.alloc ?_ ?_ _) | (with_reducible refine Below.drew ?_) | (with_reducible refine below_drewN ?_ _) | (with_reducible refine Below.setCell ?_ ?_ _) | (with_reducible refine below_step ?_ (by with_reducible assumption) ?_) | (with_reducible exact Nat.le_refl _) | omega | (simp; omega) | (simp; done))))
                replace K2 := K2.step (show Below w4.heap.size w4 w5 by (repeat' (first | (with_reducible exact Below.refl _ _) | (with_reducible assumption) | (with_reducible exact Bw.out (by with_reducible assumption)) | (with_reducible refine bw_alloc ?_ _) | (with_reducible refine bw_step ?_ (by with_reducible assumption)) | (with_reducible refine Below.alloc ?_ ?_ _) | (with_reducible refine Below.drew ?_) | (with_reducible refine below_drewN ?_ _) | (with_reducible refine Below.setCell ?_ ?_ _) | (with_reducible refine below_step ?_ (by with_reducible assumption) ?_) | (with_reducible exact Nat.le_refl _) | omega | (simp; omega) | (simp; done))))
                replace KM := KM.step (show Below w4.heap.size w4 w5 by (repeat' (first | (with_reducible exact Below.refl _ _) | (with_reducible assumption) | (with_reducible exact Bw.out (by with_reducible assumption)) | (with_reducible refine bw_alloc ?_ _) | (with_reducible refine bw_step ?_ (by with_reducible assumption)) | (with_reducible refine Below.alloc ?_ ?_ _) | (with_reducible refine Below.drew ?_) | (with_reducible refine below_drewN ?_ _) | (with_reducible refine Below.setCell ?_ ?_ _) | (with_reducible refine below_step ?_ (by with_reducible assumption) ?_) | (with_reducible exact Nat.le_refl _) | omega | (simp; omega) | (simp; done))))
                have HB5 : Below w.heap.size w w5 := by (repeat' (first | (with_reducible exact Below.refl _ _) | (with_reducible assumption) | (with_reducible exact Bw.out (by with_reducible assumption)) | (with_reducible refine bw_alloc ?_ _) | (with_reducible refine bw_step ?_ (by with_reducible assumption)) | (with_reducible refine Below.alloc ?_ ?_ _) | (with_reducible refine Below.drew ?_) | (with_reducible refine below_drewN ?_ _) | (with_reducible refine Below.setCell ?_ ?_ _) | (with_reducible refine below_step ?_ (by with_reducible assumption) ?_) | (with_reducible exact Nat.le_refl _) | omega | (simp; omega) | (simp; done)))
                clear R_s_4 c_s_0_4 c_s_1_4 c_s_2_4 c_s_3_4 hb4 HB4
                go_wp2_with fail
                go_ret
                refine ⟨(by first | rfl | exact ret_bool (by first | rfl | (simp; done) | (simp; omega))), ?_⟩
                (repeat' (first | (with_reducible exact Below.refl _ _) | (with_reducible assumption) | (with_reducible exact Bw.out (by with_reducible assumption)) | (with_reducible refine bw_alloc ?_ _) | (with_reducible refine bw_step ?_ (by with_reducible assumption)) | (with_reducible refine Below.alloc ?_ ?_ _) | (with_reducible refine Below.drew ?_) | (with_reducible refine below_drewN ?_ _) | (with_reducible refine Below.setCell ?_ ?_ _) | (with_reducible refine below_step ?_ (by with_reducible assumption) ?_) | (with_reducible exact Nat.le_refl _) | omega | (simp; omega) | (simp; done)))
    · have hg20 : ¬ ((n : Int) ≤ 20) := by omega
      go_enter Try.func7, Try.ntmps7
      go_wp2_with fail
      refine (a_head_any _).mono ?_
      rintro e w1 ⟨rfl, hb1⟩
      have HB1 : Below w.heap.size w w1 := by (repeat' (first | (with_reducible exact Below.refl _ _) | (with_reducible assumption) | (with_reducible exact Bw.out (by with_reducible assumption)) | (with_reducible refine bw_alloc ?_ _) | (with_reducible refine bw_step ?_ (by with_reducible assumption)) | (with_reducible refine Below.alloc ?_ ?_ _) | (with_reducible refine Below.drew ?_) | (with_reducible refine below_drewN ?_ _) | (with_reducible refine Below.setCell ?_ ?_ _) | (with_reducible refine below_step ?_ (by with_reducible assumption) ?_) | (with_reducible exact Nat.le_refl _) | omega | (simp; omega) | (simp; done)))
      go_wp2_with fail
      refine (R_few_any _ _ _ l _ (by omega) (HS.out.below (by (repeat' (first | (with_reducible exact Below.refl _ _) | (with_reducible assumption) | (with_reducible exact Bw.out (by with_reducible assumption)) | (with_reducible refine bw_alloc ?_ _) | (with_reducible refine bw_step ?_ (by with_reducible assumption)) | (with_reducible refine Below.alloc ?_ ?_ _) | (with_reducible refine Below.drew ?_) | (with_reducible refine below_drewN ?_ _) | (with_reducible refine Below.setCell ?_ ?_ _) | (with_reducible refine below_step ?_ (by with_reducible assumption) ?_) | (with_reducible exact Nat.le_refl _) | omega | (simp; omega) | (simp; done))))) true HF.out).mono ?_
      rintro e w' ⟨rfl, rfl⟩
      go_wp2_with fail
      go_ret
      refine ⟨(by first | rfl | exact ret_bool (by first | rfl | (simp; done) | (simp; omega))), ?_⟩
      (repeat' (first | (with_reducible exact Below.refl _ _) | (with_reducible assumption) | (with_reducible exact Bw.out (by with_reducible assumption)) | (with_reducible refine bw_alloc ?_ _) | (with_reducible refine bw_step ?_ (by with_reducible assumption)) | (with_reducible refine Below.alloc ?_ ?_ _) | (with_reducible refine Below.drew ?_) | (with_reducible refine below_drewN ?_ _) | (with_reducible refine Below.setCell ?_ ?_ _) | (with_reducible refine below_step ?_ (by with_reducible assumption) ?_) | (with_reducible exact Nat.le_refl _) | omega | (simp; omega) | (simp; done)))


set_option maxRecDepth 100000 in
theorem allotRefuses_lifted (os : Os) (started : os.Started) (H : Type) (enc : TypeId × Value → H) :
    ReturnsInHanded {} Try.checked os 7 .any (Rows.allotRefusesSpec.pre6 enc Try.prog Try.f7 Rows.allotRefusesRow.domain false) (Rows.allotRefusesSpec.post enc Try.prog Try.f7 false true false false) := by
  refine returnsInHanded_of_change (C := Try.checked) own started (by kernel_rfl) Try.func7
    (ChangeSpec.witness6 (enc := enc) (C := Try.checked) false ⟨#[], #[.slice none 0 0, .slice none 0 0, .int .i64 0, .int .i64 0], []⟩ 8 (by kernel_rfl) (by kernel_rfl) (by kernel_rfl) (by kernel_rfl)) ?_
  intro W base args ds gs before hval0 hW _ _
  have hval : ∀ (j : Nat) t v, Try.f7.params[j]? = some t → args[j]? = some v → Value.okWide Try.prog W .any base t v := hval0
  have hW' := hW
  obtain ⟨p, q, hA0, hV, rfl, hfz, hnd⟩ := hW
  obtain ⟨rfl, rfl⟩ := trodVars_none hV
  have hA : DataW.TrodAll enc Try.prog W 0 (fun _ => true) true Try.f7.params.toList args.toList ds p := hA0
  rw [Try.params7] at hA hval
  obtain ⟨v0, vs0, d0, ds0, p0, q0, hargs, rfl, rfl, h0, r0⟩ := trodAll_cons hA
  obtain ⟨v1, vs1, d1, ds1, p1, q1, rfl, rfl, rfl, h1, r1⟩ := trodAll_cons r0
  obtain ⟨v2, vs2, d2, ds2, p2, q2, rfl, rfl, rfl, h2, r2⟩ := trodAll_cons r1
  obtain ⟨v3, vs3, d3, ds3, p3, q3, rfl, rfl, rfl, h3, r3⟩ := trodAll_cons r2
  obtain ⟨rfl, rfl, rfl⟩ := trodAll_nil r3
  obtain rfl : args = #[v0, v1, v2, v3] := by cases args; simp_all
  obtain ⟨a0_l, n0_l, c0_l, rfl⟩ := okWide_slice Try.underlying25 (hval 0 25 v0 rfl rfl)
  obtain ⟨fu_l, hf_l⟩ := h0
  obtain ⟨a_l, n_l, c_l, l_l, e_l, g1_l, g2_l, hs_l, wf_l⟩ := sln_of_nights (by simpa [Value.cells] using hf_l)
  cases e_l
  obtain ⟨a0_k, n0_k, c0_k, rfl⟩ := okWide_slice Try.underlying26 (hval 1 26 v1 rfl rfl)
  obtain ⟨fu_k, hf_k⟩ := h1
  obtain ⟨a_k, n_k, c_k, l_k, e_k, g1_k, g2_k, hs_k, wf_k⟩ := sll_of_lists (by simpa [Value.cells] using hf_k)
  cases e_k
  obtain ⟨c, rfl, rfl, rfl, wc⟩ := open_int Try.underlying3 (hval 2 3 v2 rfl rfl) h2
  obtain ⟨m, rfl, rfl, rfl, wm⟩ := open_int Try.underlying3 (hval 3 3 v3 rfl rfl) h3
  clear hA0 hval0
  refine (arefuses_walk _ _ _ l_l _ _ _ l_k c m wf_l wf_k wc wm W ⟨hs_l, g1_l, g2_l⟩ ⟨hs_k, g1_k, g2_k⟩).mono fun e W' ⟨he, hb⟩ => ?_
  subst he
  exact ⟨_, rfl, law_post (B := 4) laidOut (by rw [Try.params7]; simp only [List.mem_cons, List.not_mem_nil, or_false, forall_eq_or_imp, forall_eq]; first | exact readable_allotRefuses | (repeat' apply And.intro) <;> first | exact of_decide_eq_true (by kernel_rfl) | kernel_rfl) rfl Try.underlying4 rfl rfl hW' hb⟩

theorem allotRefuses_over : Rows.allotRefusesRow.holds Try.pinned (OpenSpec.ofChange Rows.allotRefusesSpec) :=
  OpenClaim.holds_of_wide 7 Try.f7 rfl rfl rfl rfl rfl rfl rfl ⟨rfl, rfl, rfl, rfl, rfl⟩ rfl rfl rfl rfl rfl (by kernel_rfl) Try.func7 (by kernel_rfl)
    (of_decide_eq_true (by kernel_rfl)) (by unfold Func.isWrapper; first | (rw [if_pos (by decide +kernel)]; kernel_rfl) | (rw [if_neg (by decide +kernel)]; exact ⟨rfl, rfl⟩))
    (fun os started H enc _ => allotRefuses_lifted os started H enc)

theorem allotRefuses_holds : Rows.AllotRefusesSaid := allotRefuses_over
#print axioms allotRefuses_holds
end Go.Proofs.Ytijbhdpaikajkaa
