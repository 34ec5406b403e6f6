/-
  The walks of the reference implementation of worst, first part: in, Cut, Few, SameInts, Same; and of the reference's Valid of nights.
-/
import Derived.Test.YtijbhdpaikajkaaPromA
namespace Go.Proofs.Ytijbhdpaikajkaa
set_option linter.unusedSimpArgs false
set_option linter.unusedVariables false
open Go.RowKit

set_option maxHeartbeats 800000 in
theorem R_in_any (n lo hi : Int) (w : World) :
    Calls Try.prog 53 #[.int .i64 n, .int .i64 lo, .int .i64 hi] w fun e w' => e = .returned (.bool (decide (lo ≤ n) && decide (n ≤ hi))) ∧ w = w' := by
  by_cases h1 : lo ≤ n
  · by_cases h2 : n ≤ hi
    · go_enter Try.func53, Try.ntmps53
      go_wp2_with fail
      go_ret
      exact ⟨ret_bool (by simp [h1, h2]), rfl⟩
    · go_enter Try.func53, Try.ntmps53
      go_wp2_with fail
      go_ret
      exact ⟨ret_bool (by simp [h1, h2]), rfl⟩
  · go_enter Try.func53, Try.ntmps53
    go_wp2_with fail
    go_ret
    exact ⟨ret_bool (by first | (simp; omega) | (simp [h1]; done)), rfl⟩
theorem R_in0 (n hi : Int) (w : World) :
    Calls Try.prog 53 #[.int .i64 n, .int .i64 0, .int .i64 hi] w fun e w' => e = .returned (.bool (inB n hi)) ∧ w = w' := R_in_any n 0 hi w
set_option maxHeartbeats 800000 in
theorem R_Cut_any (n : Int) (w : World) :
    Calls Try.prog 30 #[.int .i64 n] w fun e w' => e = .returned (.bool (inB n 30)) ∧ w = w' := by
  go_enter Try.func30, Try.ntmps30
  go_wp2_with fail
  refine (R_in0 _ _ _).mono ?_
  rintro e w' ⟨rfl, rfl⟩
  go_wp2_with fail
  go_ret
  exact ⟨rfl, rfl⟩

/-- Are the nights not too many? -/
def fewN (l : List NightV) : Bool := l.all (fun x => decide (x.zs.length ≤ 40)) && decide (l.length ≤ 40)
theorem In_len {x : NightV} {w : World} (h : x.In w) : x.zs.length = x.n := h.2.1

set_option maxRecDepth 100000 in
set_option maxHeartbeats 1600000 in
theorem R_few_any (a : Option Addr) (n cap : Nat) (l : List NightV) (w : World) (hm : n ≤ 9223372036854775807) (hs : SlN w a n l) (B : Bool) (hB : fewN l = B) :
    Calls Try.prog 12 #[.slice a n cap] w fun e w' => e = .returned (.bool B) ∧ w = w' := by
  have HL := Lib.hid hs.1
  have HS := Lib.hid hs
  have HB := Lib.hid hB
  clear hs hB
  go_enter Try.func12, Try.ntmps12
  go_wp2_with fail
  go_loop [3] (fun i => ∃ k : Nat, k ≤ n ∧ k ≤ 50 ∧ i = .int .i64 k ∧ Hid ((l.take k).all (fun x => decide (x.zs.length ≤ 40)) = true)) (fun i => n - (intOf i).toNat)
  case atStart => exact ⟨0, Nat.zero_le _, Nat.zero_le _, rfl, by show _ = _; simp⟩
  case round =>
    obtain ⟨k, hk, hk50, rfl, hT⟩ := hrel
    by_cases hlt : k < n
    · by_cases h50 : k < 50
      · obtain ⟨x, b, off, hx, _, hin, rfl, hb, c0, c1, c2⟩ := HS.out.get hlt
        have hxl := In_len hin
        have hxn := hin.1
        by_cases h40 : x.n ≤ 40
        · have HT : Hid ((l.take (k + 1)).all (fun x => decide (x.zs.length ≤ 40)) = true) := by
            show _ = _
            rw [List.take_add_one, hx, List.all_append, hT.out]
            simp; omega
          clear hx hxl hin
          go_wp2_with fail
          go_round
          case rel => exact ⟨k + 1, by omega, by omega, by go_num, HT⟩
          case measure => simp [intOf]; omega
        · have hr : B = false := by
            rw [← HB.out]
            unfold fewN
            rw [Bool.and_eq_false_iff]
            refine Or.inl ?_
            rw [List.all_eq_false]
            exact ⟨x, List.mem_of_getElem? hx, by simp; omega⟩
          subst hr
          clear hx hxl hin
          go_wp2_with fail
          go_ret
          exact ⟨rfl, rfl⟩
      · obtain rfl : k = 50 := by omega
        have hr : B = false := by
          rw [← HB.out]
          unfold fewN
          rw [Bool.and_eq_false_iff]
          exact Or.inr (by have := HL.out; simp; omega)
        subst hr
        have hl : (40 : Int) < n := by omega
        go_wp2_with fail
        go_ret
        exact ⟨ret_bool (by first | rfl | (simp; done) | (simp; omega)), rfl⟩
    · obtain rfl : k = n := by omega
      have hr : B = decide ((k : Int) ≤ 40) := by
        rw [← HB.out]
        unfold fewN
        have := hT.out
        rw [List.take_of_length_le (by rw [HL.out]; omega)] at this
        rw [this, Bool.true_and, HL.out]
        simp; omega
      subst hr
      go_wp2_with fail
      all_goals
        go_ret
        exact ⟨by first | rfl | exact ret_bool (by first | rfl | (simp; done) | (simp; omega)), rfl⟩

set_option maxRecDepth 100000 in
set_option maxHeartbeats 1600000 in
theorem R_valid_any (a : Option Addr) (n cap : Nat) (l : List NightV) (w : World) (hm : n ≤ 9223372036854775807) (hs : SlN w a n l) (B : Bool) (hB : nightsB l = B) :
    Calls Try.prog 49 #[.slice a n cap] w fun e w' => e = .returned (.bool B) ∧ Below w.heap.size w w' := by
  have HL := Lib.hid hs.1
  have HS := Lib.hid hs
  have HB := Lib.hid hB
  clear hs hB
  go_enter Try.func49, Try.ntmps49
  go_wp2_with fail
  go_loopw [3] (fun i wr => ∃ k : Nat, k ≤ n ∧ i = .int .i64 k ∧ Hid ((l.take k).all NightV.ok = true) ∧ Bw w.heap.size w wr) (fun i _ => n - (intOf i).toNat)
  case atStart => exact ⟨0, Nat.zero_le _, rfl, by show _ = _; simp, Below.refl _ _⟩
  case round =>
    obtain ⟨k, hk, rfl, hT, hBw⟩ := hrel
    have hB' := hBw.out
    by_cases hlt : k < n
    · obtain ⟨x, b, off, hx, _, hin, rfl, hb, c0, c1, c2⟩ := (HS.out.below hB').get hlt
      have hxn := hin.1
      have HX := Lib.hid hin.2
      clear hin
      go_wp2_with fail
      refine (R_night_any _ _ _ _ _ x.zs _ hxn HX.out).mono ?_
      rintro e w1 ⟨rfl, hb1⟩
      have hB2 : Bw w.heap.size w w1 := bw_step hB' hb1
      cases hp : nightB x.rooms x.sold x.zs with
      | true =>
        have HT : Hid ((l.take (k + 1)).all NightV.ok = true) := by
          show _ = _
          rw [List.take_add_one, hx, List.all_append, hT.out]
          simp [NightV.ok, hp]
        clear hx hp
        go_wp2_with fail
        go_roundw
        case rel => exact ⟨k + 1, by omega, by go_num, HT, hB2⟩
        case measure => simp [intOf]; omega
      | false =>
        have hr : B = false := by
          rw [← HB.out]
          unfold nightsB
          rw [Bool.and_eq_false_iff]
          refine Or.inr ?_
          rw [List.all_eq_false]
          exact ⟨x, List.mem_of_getElem? hx, by simp [NightV.ok, hp]⟩
        subst hr
        clear hx hp
        go_wp2_with fail
        go_ret
        exact ⟨rfl, hB2.out⟩
    · obtain rfl : k = n := by omega
      have hr : B = decide ((k : Int) ≤ 366) := by
        rw [← HB.out]
        unfold nightsB
        have := hT.out
        rw [List.take_of_length_le (by rw [HL.out]; omega)] at this
        rw [this, Bool.and_true, HL.out]
        simp; omega
      subst hr
      go_wp2_with fail
      all_goals
        go_ret
        exact ⟨by first | rfl | exact ret_bool (by first | rfl | (simp; done) | (simp; omega)), hB'⟩

end Go.Proofs.Ytijbhdpaikajkaa
