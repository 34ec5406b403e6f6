/-
  The reference of scene, first part: in, Ask, AreSales, Few; law25's right.
-/
import Derived.Test.YtdijdfhlmnhcjaaScnJ
namespace Go.Proofs.Ytdijdfhlmnhcjaa
set_option linter.unusedSimpArgs false
set_option linter.unusedVariables false
open Go.RowKit Go.MapKept

set_option maxHeartbeats 800000 in
theorem R_in25 (n lo hi : Int) (w : World) (b : Bool) (hb : inR n lo hi = b) :
    Calls Try.prog 32 #[.int .i64 n, .int .i64 lo, .int .i64 hi] w fun e w' => e = .returned (.bool b) ∧ w' = w := by
  subst hb
  by_cases h1 : lo ≤ n
  · by_cases h2 : n ≤ hi
    · rw [inR_iff.2 ⟨h1, h2⟩]
      go_enter Try.func32, Try.ntmps32
      go_wp2_with fail
      go_ret
      exact ⟨ret_bool (by first | rfl | (simp; done) | (simp; omega)), rfl⟩
    · rw [inR_no.2 (by omega)]
      go_enter Try.func32, Try.ntmps32
      go_wp2_with fail
      go_ret
      exact ⟨ret_bool (by first | rfl | (simp; done) | (simp; omega)), rfl⟩
  · rw [inR_no.2 (by omega)]
    go_enter Try.func32, Try.ntmps32
    go_wp2_with fail
    go_ret
    exact ⟨ret_bool (by first | rfl | (simp; done) | (simp; omega)), rfl⟩
theorem askB_out {k f u p : Int} (h : ¬ ((1 ≤ k ∧ k ≤ 20) ∧ 0 ≤ f ∧ f < u ∧ u ≤ 366 ∧ u - f ≤ 60 ∧ 1 ≤ p ∧ p ≤ 8)) : askB k f u p = false := by
  cases hb : askB k f u p with
  | false => rfl
  | true =>
    obtain ⟨h1, h2, h3, h4⟩ := askB_in hb
    exact absurd ⟨h1, by omega, by omega, by omega, by omega, h4.1, h4.2⟩ h
theorem askB_yes {k f u p : Int} (h : (1 ≤ k ∧ k ≤ 20) ∧ 0 ≤ f ∧ f < u ∧ u ≤ 366 ∧ u - f ≤ 60 ∧ 1 ≤ p ∧ p ≤ 8) : askB k f u p = true := by
  unfold askB
  simp only [Bool.and_eq_true, inR_iff]
  refine ⟨h.1, by omega, ?_, h.2.2.2.2.2⟩
  unfold askU
  split <;> omega

set_option maxRecDepth 100000 in
set_option maxHeartbeats 1600000 in
theorem R_Ask_any (k f u p : Int) (w : World) :
    Calls Try.prog 60 #[.agg #[.int .i64 k, .int .i64 f, .int .i64 u, .int .i64 p]] w fun e w' => e = .returned (.bool (askB k f u p)) ∧ Below w.heap.size w w' := by
  have HBx : Hid (Below w.heap.size w (w.alloc (.cells #[.int .i64 k, .int .i64 f, .int .i64 u, .int .i64 p] 42))) := by show Below _ _ _; (repeat' (first | (with_reducible exact Below.refl _ _) | (with_reducible assumption) | (with_reducible exact Bw.out (by with_reducible assumption)) | (with_reducible refine bw_alloc ?_ _) | (with_reducible refine bw_step ?_ (by with_reducible assumption)) | (with_reducible refine Below.alloc ?_ ?_ _) | (with_reducible refine Below.drew ?_) | (with_reducible refine below_drewN ?_ _) | (with_reducible refine Below.setCell ?_ ?_ _) | (with_reducible refine below_step ?_ (by with_reducible assumption) ?_) | (with_reducible exact Nat.le_refl _) | omega | (simp; omega) | (simp; done)))
  cases h1 : inR k 1 20 with
  | false =>
    have h1' := inR_no.1 h1
    have hf : askB k f u p = false := askB_out (fun h => by exact h1' h.1)
    rw [hf]
    clear hf
    go_enter Try.func60, Try.ntmps60
    go_wp2_with fail
    refine (R_in25 _ _ _ _ false (by assumption)).mono ?_
    rintro e w' ⟨rfl, rfl⟩
    go_wp2_with fail
    go_ret
    exact ⟨rfl, HBx.out⟩
  | true =>
    have h1' := inR_iff.1 h1
    by_cases h2 : 0 ≤ f
    · by_cases h3 : f < u
      · by_cases h4 : u ≤ 366
        · by_cases h5 : u - f ≤ 60
          · cases h6 : inR p 1 8 with
            | false =>
              have h6' := inR_no.1 h6
              have hf : askB k f u p = false := askB_out (fun h => by exact h6' h.2.2.2.2.2)
              rw [hf]
              clear hf
              go_enter Try.func60, Try.ntmps60
              go_wp2_with fail
              refine (R_in25 _ _ _ _ true (by assumption)).mono ?_
              rintro e w' ⟨rfl, rfl⟩
              go_wp2_with fail
              refine (R_in25 _ _ _ _ false (by assumption)).mono ?_
              rintro e w' ⟨rfl, rfl⟩
              go_wp2_with fail
              go_ret
              exact ⟨rfl, HBx.out⟩
            | true =>
              have h6' := inR_iff.1 h6
              have hf : askB k f u p = true := askB_yes ⟨h1', h2, h3, h4, h5, h6'⟩
              rw [hf]
              clear hf
              go_enter Try.func60, Try.ntmps60
              go_wp2_with fail
              refine (R_in25 _ _ _ _ true (by assumption)).mono ?_
              rintro e w' ⟨rfl, rfl⟩
              go_wp2_with fail
              refine (R_in25 _ _ _ _ true (by assumption)).mono ?_
              rintro e w' ⟨rfl, rfl⟩
              go_wp2_with fail
              go_ret
              exact ⟨rfl, HBx.out⟩
          ·
            have hf : askB k f u p = false := askB_out (fun h => by exact h5 h.2.2.2.2.1)
            rw [hf]
            clear hf
            go_enter Try.func60, Try.ntmps60
            go_wp2_with fail
            refine (R_in25 _ _ _ _ true (by assumption)).mono ?_
            rintro e w' ⟨rfl, rfl⟩
            go_wp2_with fail
            go_ret
            exact ⟨rfl, HBx.out⟩
        ·
          have hf : askB k f u p = false := askB_out (fun h => by exact h4 h.2.2.2.1)
          rw [hf]
          clear hf
          go_enter Try.func60, Try.ntmps60
          go_wp2_with fail
          refine (R_in25 _ _ _ _ true (by assumption)).mono ?_
          rintro e w' ⟨rfl, rfl⟩
          go_wp2_with fail
          go_ret
          exact ⟨rfl, HBx.out⟩
      ·
        have hf : askB k f u p = false := askB_out (fun h => by exact h3 h.2.2.1)
        rw [hf]
        clear hf
        go_enter Try.func60, Try.ntmps60
        go_wp2_with fail
        refine (R_in25 _ _ _ _ true (by assumption)).mono ?_
        rintro e w' ⟨rfl, rfl⟩
        go_wp2_with fail
        go_ret
        exact ⟨rfl, HBx.out⟩
    ·
      have hf : askB k f u p = false := askB_out (fun h => by exact h2 h.2.1)
      rw [hf]
      clear hf
      go_enter Try.func60, Try.ntmps60
      go_wp2_with fail
      refine (R_in25 _ _ _ _ true (by assumption)).mono ?_
      rintro e w' ⟨rfl, rfl⟩
      go_wp2_with fail
      go_ret
      exact ⟨rfl, HBx.out⟩

/-- Not too many. -/
def fewB (l : List NightV) (S : List SaleV) (A : List Int) : Bool := l.all (fun x => decide (x.zs.length ≤ 40)) && (decide (l.length ≤ 400) && (decide (S.length ≤ 200) && decide (A.length ≤ 200)))
theorem In_len {x : NightV} {w : World} (h : x.In w) : x.zs.length = x.n := h.2.1
set_option maxRecDepth 100000 in
set_option maxHeartbeats 3200000 in
theorem R_Few25 (a : Option Addr) (n cap : Nat) (l : List NightV) (b : Option Addr) (m bcap : Nat) (S : List SaleV) (c : Option Addr) (q ccap : Nat) (A : List Int) (w : World)
    (hn : n ≤ 9223372036854775807) (hm : m ≤ 9223372036854775807) (hq : q ≤ 9223372036854775807) (hs : SlN w a n l) (ht : S.length = m) (hu : A.length = q) (B : Bool) (hB : fewB l S A = B) :
    Calls Try.prog 10 #[.slice a n cap, .slice b m bcap, .slice c q ccap] w fun e w' => e = .returned (.bool B) ∧ w' = w := by
  have HL := Lib.hid hs.1
  have HS := Lib.hid hs
  have HT := Lib.hid ht
  have HU := Lib.hid hu
  have HB := Lib.hid hB
  clear hs hB ht hu
  go_enter Try.func10, Try.ntmps10
  go_wp2_with fail
  go_loop [7] (fun i => ∃ k : Nat, k ≤ n ∧ k ≤ 500 ∧ i = .int .i64 k ∧ Hid ((l.take k).all (fun x => decide (x.zs.length ≤ 40)) = true)) (fun i => n - (intOf i).toNat)
  case atStart => exact ⟨0, Nat.zero_le _, Nat.zero_le _, rfl, by show _ = _; simp⟩
  case round =>
    obtain ⟨k, hk, hk50, rfl, hT⟩ := hrel
    by_cases hlt : k < n
    · by_cases h50 : k < 500
      · obtain ⟨x, bx, off, hx, _, hin, rfl, hb, c0, c1, c2⟩ := HS.out.get hlt
        have hxl := In_len hin
        have hxn := hin.1
        by_cases h40 : x.n ≤ 40
        · have HT2 : Hid ((l.take (k + 1)).all (fun x => decide (x.zs.length ≤ 40)) = true) := by
            show _ = _
            rw [List.take_add_one, hx, List.all_append, hT.out]
            simp; omega
          clear hx hxl hin
          go_wp2_with fail
          go_round
          case rel => exact ⟨k + 1, by omega, by omega, by go_num, HT2⟩
          case measure => simp [intOf]; omega
        · have hr : B = false := by
            rw [← HB.out]
            unfold fewB
            rw [Bool.and_eq_false_iff]
            refine Or.inl ?_
            rw [List.all_eq_false]
            exact ⟨x, List.mem_of_getElem? hx, by simp; omega⟩
          subst hr
          clear hx hxl hin
          go_wp2_with fail
          go_ret
          exact ⟨rfl, rfl⟩
      · obtain rfl : k = 500 := by omega
        have hr : B = false := by
          rw [← HB.out]
          unfold fewB
          rw [Bool.and_eq_false_iff]
          refine Or.inr ?_
          rw [Bool.and_eq_false_iff]
          exact Or.inl (by have := HL.out; simp; omega)
        subst hr
        have hl : ¬ (n : Int) ≤ 400 := by omega
        have hl2 : ¬ n ≤ 400 := by omega
        go_wp2_with fail
        go_ret
        exact ⟨ret_bool (by first | rfl | (simp; done) | (simp; omega)), rfl⟩
    · obtain rfl : k = n := by omega
      have hr : B = (decide (k ≤ 400) && (decide (m ≤ 200) && decide (q ≤ 200))) := by
        rw [← HB.out]
        unfold fewB
        have := hT.out
        rw [List.take_of_length_le (by rw [HL.out]; omega)] at this
        rw [this, Bool.true_and, HL.out, HT.out, HU.out]
      by_cases g1 : k ≤ 400
      · by_cases g2 : m ≤ 200
        · rw [decide_eq_true g1, decide_eq_true g2, Bool.true_and, Bool.true_and] at hr
          subst hr
          have i1 : (k : Int) ≤ 400 := by omega
          have i2 : (m : Int) ≤ 200 := by omega
          go_wp2_with fail
          all_goals
            go_ret
            exact ⟨by first | rfl | exact ret_bool (by first | rfl | (simp; done) | (simp; omega)), rfl⟩
        · rw [decide_eq_true g1, decide_eq_false g2, Bool.true_and, Bool.false_and] at hr
          subst hr
          have i1 : (k : Int) ≤ 400 := by omega
          have i2 : ¬ (m : Int) ≤ 200 := by omega
          go_wp2_with fail
          all_goals
            go_ret
            exact ⟨by first | rfl | exact ret_bool (by first | rfl | (simp; done) | (simp; omega)), rfl⟩
      · rw [decide_eq_false g1, Bool.false_and] at hr
        subst hr
        have i1 : ¬ (k : Int) ≤ 400 := by omega
        go_wp2_with fail
        all_goals
          go_ret
          exact ⟨by first | rfl | exact ret_bool (by first | rfl | (simp; done) | (simp; omega)), rfl⟩

theorem any_take_succ {p : Int → Bool} {l : List Int} {k : Nat} (h : k < l.length) : (l.take (k + 1)).any p = ((l.take k).any p || p (l.getD k 0)) := by
  rw [take_succ_get22 h]; simp

set_option maxRecDepth 100000 in
set_option maxHeartbeats 1600000 in
theorem R_shares_any (a : Option Addr) (n cap : Nat) (zs : List Int) (w : World) (hm : n ≤ 9223372036854775807) (hs : SlI w a n zs) :
    Calls Try.prog 64 #[.slice a n cap] w fun e w' => e = .returned (.bool (sharesB zs)) ∧ w = w' := by
  obtain ⟨R, hR⟩ : ∃ R, sharesB zs = R := ⟨_, rfl⟩
  rw [hR]
  have HR := Lib.hid hR
  have l1 := Lib.hid hs.1
  have HS := Lib.hid hs
  clear hR hs
  go_enter Try.func64, Try.ntmps64
  go_wp2_with fail
  go_loop [3] (fun i => ∃ k : Nat, k ≤ n ∧ i = .int .i64 k ∧ Hid ((zs.take k).any (outB 400) = false)) (fun i => n - (intOf i).toNat)
  case atStart => exact ⟨0, Nat.zero_le _, rfl, by show _ = _; simp⟩
  case round =>
    obtain ⟨k, hk, rfl, hT⟩ := hrel
    by_cases hlt : k < n
    · obtain ⟨b1, o1, x, e1, _, c1, g1, _, g2⟩ := HS.out.get hlt
      subst e1
      by_cases hx : 0 ≤ x ∧ x ≤ 400
      · obtain ⟨x1, x2⟩ := hx
        go_wp2_with fail
        go_round
        case rel => exact ⟨k + 1, by omega, by go_num, by show _ = _; rw [any_take_succ (by rw [l1.out]; exact hlt), hT.out, g1.out, outB_false ⟨x1, x2⟩]; rfl⟩
        case measure => simp [intOf]; omega
      · have hr : R = false := by
          rw [← HR.out]; unfold sharesB
          rw [show zs.any (outB 400) = true from List.any_eq_true.2 ⟨x, g2.out, outB_true hx⟩]
          simp
        subst hr
        have hx' : x < 0 ∨ (0 ≤ x ∧ 400 < x) := by omega
        clear hx
        rcases hx' with hx | ⟨hx, hx2⟩
        all_goals
          go_wp2_with fail
          go_ret
          exact ⟨rfl, rfl⟩
    · obtain rfl : n = k := by omega
      have hr : R = decide ((n : Int) ≤ 30) := by
        rw [← HR.out]; unfold sharesB
        have := hT.out
        rw [List.take_of_length_le (by rw [l1.out]; omega)] at this
        rw [this, l1.out]
        simp
        omega
      subst hr
      go_wp2_with fail
      all_goals
        go_ret
        exact ⟨by first | rfl | (exact ret_bool (by first | rfl | (simp; done) | (simp; omega))), rfl⟩

set_option maxRecDepth 100000 in
set_option maxHeartbeats 1600000 in
theorem R_night_any (rooms sold : Int) (a : Option Addr) (n cap : Nat) (zs : List Int) (w : World) (hm : n ≤ 9223372036854775807) (hs : SlI w a n zs) :
    Calls Try.prog 47 #[.agg #[.int .i64 rooms, .int .i64 sold, .slice a n cap]] w fun e w' => e = .returned (.bool (nightB rooms sold zs)) ∧ Below w.heap.size w w' := by
  have HS := Lib.hid hs
  clear hs
  unfold nightB
  cases hb : sharesB zs with
  | false =>
    simp only [Bool.false_and]
    go_enter Try.func47, Try.ntmps47
    go_wp2_with (go_at_call 64; refine (R_shares_any _ _ _ zs _ hm (HS.out.below (by (repeat' (first | (with_reducible exact Below.refl _ _) | (with_reducible assumption) | (with_reducible exact Bw.out (by with_reducible assumption)) | (with_reducible refine bw_alloc ?_ _) | (with_reducible refine bw_step ?_ (by with_reducible assumption)) | (with_reducible refine Below.alloc ?_ ?_ _) | (with_reducible refine Below.drew ?_) | (with_reducible refine below_drewN ?_ _) | (with_reducible refine Below.setCell ?_ ?_ _) | (with_reducible refine below_step ?_ (by with_reducible assumption) ?_) | (with_reducible exact Nat.le_refl _) | omega | (simp; omega) | (simp; done)))))).mono ?_; rintro e w' ⟨rfl, rfl⟩)
    go_ret
    refine ⟨(by first | rfl | exact ret_bool (by first | rfl | (simp; done) | (simp; omega))), ?_⟩
    (repeat' (first | (with_reducible exact Below.refl _ _) | (with_reducible assumption) | (with_reducible exact Bw.out (by with_reducible assumption)) | (with_reducible refine bw_alloc ?_ _) | (with_reducible refine bw_step ?_ (by with_reducible assumption)) | (with_reducible refine Below.alloc ?_ ?_ _) | (with_reducible refine Below.drew ?_) | (with_reducible refine below_drewN ?_ _) | (with_reducible refine Below.setCell ?_ ?_ _) | (with_reducible refine below_step ?_ (by with_reducible assumption) ?_) | (with_reducible exact Nat.le_refl _) | omega | (simp; omega) | (simp; done)))
  | true =>
    simp only [Bool.true_and]
    by_cases h1 : 0 ≤ rooms ∧ rooms ≤ 400
    · rw [outB_false h1]
      obtain ⟨h1, h2⟩ := h1
      by_cases h3 : 0 ≤ sold ∧ sold ≤ 1000
      · rw [outB_false h3]
        obtain ⟨h3, h4⟩ := h3
        go_enter Try.func47, Try.ntmps47
        go_wp2_with (go_at_call 64; refine (R_shares_any _ _ _ zs _ hm (HS.out.below (by (repeat' (first | (with_reducible exact Below.refl _ _) | (with_reducible assumption) | (with_reducible exact Bw.out (by with_reducible assumption)) | (with_reducible refine bw_alloc ?_ _) | (with_reducible refine bw_step ?_ (by with_reducible assumption)) | (with_reducible refine Below.alloc ?_ ?_ _) | (with_reducible refine Below.drew ?_) | (with_reducible refine below_drewN ?_ _) | (with_reducible refine Below.setCell ?_ ?_ _) | (with_reducible refine below_step ?_ (by with_reducible assumption) ?_) | (with_reducible exact Nat.le_refl _) | omega | (simp; omega) | (simp; done)))))).mono ?_; rintro e w' ⟨rfl, rfl⟩)
        go_ret
        refine ⟨(by first | rfl | exact ret_bool (by first | rfl | (simp; done) | (simp; omega))), ?_⟩
        (repeat' (first | (with_reducible exact Below.refl _ _) | (with_reducible assumption) | (with_reducible exact Bw.out (by with_reducible assumption)) | (with_reducible refine bw_alloc ?_ _) | (with_reducible refine bw_step ?_ (by with_reducible assumption)) | (with_reducible refine Below.alloc ?_ ?_ _) | (with_reducible refine Below.drew ?_) | (with_reducible refine below_drewN ?_ _) | (with_reducible refine Below.setCell ?_ ?_ _) | (with_reducible refine below_step ?_ (by with_reducible assumption) ?_) | (with_reducible exact Nat.le_refl _) | omega | (simp; omega) | (simp; done)))
      · rw [outB_true h3]
        have h3' : sold < 0 ∨ (0 ≤ sold ∧ 1000 < sold) := by omega
        clear h3
        rcases h3' with h3 | ⟨h3, h4⟩
        ·
          go_enter Try.func47, Try.ntmps47
          go_wp2_with (go_at_call 64; refine (R_shares_any _ _ _ zs _ hm (HS.out.below (by (repeat' (first | (with_reducible exact Below.refl _ _) | (with_reducible assumption) | (with_reducible exact Bw.out (by with_reducible assumption)) | (with_reducible refine bw_alloc ?_ _) | (with_reducible refine bw_step ?_ (by with_reducible assumption)) | (with_reducible refine Below.alloc ?_ ?_ _) | (with_reducible refine Below.drew ?_) | (with_reducible refine below_drewN ?_ _) | (with_reducible refine Below.setCell ?_ ?_ _) | (with_reducible refine below_step ?_ (by with_reducible assumption) ?_) | (with_reducible exact Nat.le_refl _) | omega | (simp; omega) | (simp; done)))))).mono ?_; rintro e w' ⟨rfl, rfl⟩)
          go_ret
          refine ⟨(by first | rfl | exact ret_bool (by first | rfl | (simp; done) | (simp; omega))), ?_⟩
          (repeat' (first | (with_reducible exact Below.refl _ _) | (with_reducible assumption) | (with_reducible exact Bw.out (by with_reducible assumption)) | (with_reducible refine bw_alloc ?_ _) | (with_reducible refine bw_step ?_ (by with_reducible assumption)) | (with_reducible refine Below.alloc ?_ ?_ _) | (with_reducible refine Below.drew ?_) | (with_reducible refine below_drewN ?_ _) | (with_reducible refine Below.setCell ?_ ?_ _) | (with_reducible refine below_step ?_ (by with_reducible assumption) ?_) | (with_reducible exact Nat.le_refl _) | omega | (simp; omega) | (simp; done)))
        ·
          go_enter Try.func47, Try.ntmps47
          go_wp2_with (go_at_call 64; refine (R_shares_any _ _ _ zs _ hm (HS.out.below (by (repeat' (first | (with_reducible exact Below.refl _ _) | (with_reducible assumption) | (with_reducible exact Bw.out (by with_reducible assumption)) | (with_reducible refine bw_alloc ?_ _) | (with_reducible refine bw_step ?_ (by with_reducible assumption)) | (with_reducible refine Below.alloc ?_ ?_ _) | (with_reducible refine Below.drew ?_) | (with_reducible refine below_drewN ?_ _) | (with_reducible refine Below.setCell ?_ ?_ _) | (with_reducible refine below_step ?_ (by with_reducible assumption) ?_) | (with_reducible exact Nat.le_refl _) | omega | (simp; omega) | (simp; done)))))).mono ?_; rintro e w' ⟨rfl, rfl⟩)
          go_ret
          refine ⟨(by first | rfl | exact ret_bool (by first | rfl | (simp; done) | (simp; omega))), ?_⟩
          (repeat' (first | (with_reducible exact Below.refl _ _) | (with_reducible assumption) | (with_reducible exact Bw.out (by with_reducible assumption)) | (with_reducible refine bw_alloc ?_ _) | (with_reducible refine bw_step ?_ (by with_reducible assumption)) | (with_reducible refine Below.alloc ?_ ?_ _) | (with_reducible refine Below.drew ?_) | (with_reducible refine below_drewN ?_ _) | (with_reducible refine Below.setCell ?_ ?_ _) | (with_reducible refine below_step ?_ (by with_reducible assumption) ?_) | (with_reducible exact Nat.le_refl _) | omega | (simp; omega) | (simp; done)))
    · rw [outB_true h1]
      have h1' : rooms < 0 ∨ (0 ≤ rooms ∧ 400 < rooms) := by omega
      clear h1
      rcases h1' with h1 | ⟨h1, h2⟩
      ·
        go_enter Try.func47, Try.ntmps47
        go_wp2_with (go_at_call 64; refine (R_shares_any _ _ _ zs _ hm (HS.out.below (by (repeat' (first | (with_reducible exact Below.refl _ _) | (with_reducible assumption) | (with_reducible exact Bw.out (by with_reducible assumption)) | (with_reducible refine bw_alloc ?_ _) | (with_reducible refine bw_step ?_ (by with_reducible assumption)) | (with_reducible refine Below.alloc ?_ ?_ _) | (with_reducible refine Below.drew ?_) | (with_reducible refine below_drewN ?_ _) | (with_reducible refine Below.setCell ?_ ?_ _) | (with_reducible refine below_step ?_ (by with_reducible assumption) ?_) | (with_reducible exact Nat.le_refl _) | omega | (simp; omega) | (simp; done)))))).mono ?_; rintro e w' ⟨rfl, rfl⟩)
        go_ret
        refine ⟨(by first | rfl | exact ret_bool (by first | rfl | (simp; done) | (simp; omega))), ?_⟩
        (repeat' (first | (with_reducible exact Below.refl _ _) | (with_reducible assumption) | (with_reducible exact Bw.out (by with_reducible assumption)) | (with_reducible refine bw_alloc ?_ _) | (with_reducible refine bw_step ?_ (by with_reducible assumption)) | (with_reducible refine Below.alloc ?_ ?_ _) | (with_reducible refine Below.drew ?_) | (with_reducible refine below_drewN ?_ _) | (with_reducible refine Below.setCell ?_ ?_ _) | (with_reducible refine below_step ?_ (by with_reducible assumption) ?_) | (with_reducible exact Nat.le_refl _) | omega | (simp; omega) | (simp; done)))
      ·
        go_enter Try.func47, Try.ntmps47
        go_wp2_with (go_at_call 64; refine (R_shares_any _ _ _ zs _ hm (HS.out.below (by (repeat' (first | (with_reducible exact Below.refl _ _) | (with_reducible assumption) | (with_reducible exact Bw.out (by with_reducible assumption)) | (with_reducible refine bw_alloc ?_ _) | (with_reducible refine bw_step ?_ (by with_reducible assumption)) | (with_reducible refine Below.alloc ?_ ?_ _) | (with_reducible refine Below.drew ?_) | (with_reducible refine below_drewN ?_ _) | (with_reducible refine Below.setCell ?_ ?_ _) | (with_reducible refine below_step ?_ (by with_reducible assumption) ?_) | (with_reducible exact Nat.le_refl _) | omega | (simp; omega) | (simp; done)))))).mono ?_; rintro e w' ⟨rfl, rfl⟩)
        go_ret
        refine ⟨(by first | rfl | exact ret_bool (by first | rfl | (simp; done) | (simp; omega))), ?_⟩
        (repeat' (first | (with_reducible exact Below.refl _ _) | (with_reducible assumption) | (with_reducible exact Bw.out (by with_reducible assumption)) | (with_reducible refine bw_alloc ?_ _) | (with_reducible refine bw_step ?_ (by with_reducible assumption)) | (with_reducible refine Below.alloc ?_ ?_ _) | (with_reducible refine Below.drew ?_) | (with_reducible refine below_drewN ?_ _) | (with_reducible refine Below.setCell ?_ ?_ _) | (with_reducible refine below_step ?_ (by with_reducible assumption) ?_) | (with_reducible exact Nat.le_refl _) | omega | (simp; omega) | (simp; done)))

set_option maxRecDepth 100000 in
set_option maxHeartbeats 1600000 in
theorem R_valid_any (a : Option Addr) (n cap : Nat) (l : List NightV) (w : World) (hm : n ≤ 9223372036854775807) (hs : SlN w a n l) (B : Bool) (hB : nightsB l = B) :
    Calls Try.prog 25 #[.slice a n cap] w fun e w' => e = .returned (.bool B) ∧ Below w.heap.size w w' := by
  have HL := Lib.hid hs.1
  have HS := Lib.hid hs
  have HB := Lib.hid hB
  clear hs hB
  go_enter Try.func25, Try.ntmps25
  go_wp2_with fail
  go_loopw [3] (fun i wr => ∃ k : Nat, k ≤ n ∧ i = .int .i64 k ∧ Hid ((l.take k).all NightV.ok = true) ∧ Bw w.heap.size w wr) (fun i _ => n - (intOf i).toNat)
  case atStart => exact ⟨0, Nat.zero_le _, rfl, by show _ = _; simp, Below.refl _ _⟩
  case round =>
    obtain ⟨k, hk, rfl, hT, hBw⟩ := hrel
    have hB' := hBw.out
    by_cases hlt : k < n
    · obtain ⟨x, b, off, hx, _, hin, rfl, hb, c0, c1, c2⟩ := (HS.out.below hB').get hlt
      have hxn := hin.1
      have HX := Lib.hid hin.2
      clear hin
      go_wp2_with fail
      refine (R_night_any _ _ _ _ _ x.zs _ hxn HX.out).mono ?_
      rintro e w1 ⟨rfl, hb1⟩
      have hB2 : Bw w.heap.size w w1 := bw_step hB' hb1
      cases hp : nightB x.rooms x.sold x.zs with
      | true =>
        have HT : Hid ((l.take (k + 1)).all NightV.ok = true) := by
          show _ = _
          rw [List.take_add_one, hx, List.all_append, hT.out]
          simp [NightV.ok, hp]
        clear hx hp
        go_wp2_with fail
        go_roundw
        case rel => exact ⟨k + 1, by omega, by go_num, HT, hB2⟩
        case measure => simp [intOf]; omega
      | false =>
        have hr : B = false := by
          rw [← HB.out]
          unfold nightsB
          rw [Bool.and_eq_false_iff]
          refine Or.inr ?_
          rw [List.all_eq_false]
          exact ⟨x, List.mem_of_getElem? hx, by simp [NightV.ok, hp]⟩
        subst hr
        clear hx hp
        go_wp2_with fail
        go_ret
        exact ⟨rfl, hB2.out⟩
    · obtain rfl : k = n := by omega
      have hr : B = decide ((k : Int) ≤ 366) := by
        rw [← HB.out]
        unfold nightsB
        have := hT.out
        rw [List.take_of_length_le (by rw [HL.out]; omega)] at this
        rw [this, Bool.and_true, HL.out]
        simp; omega
      subst hr
      go_wp2_with fail
      all_goals
        go_ret
        exact ⟨by first | rfl | exact ret_bool (by first | rfl | (simp; done) | (simp; omega)), hB'⟩

end Go.Proofs.Ytdijdfhlmnhcjaa
