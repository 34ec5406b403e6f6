/-
 The walks of package types: rising.
-/
import Derived.Test.YtcmodmchnokmgaaTyC
namespace Go.Proofs.Ytcmodmchnokmgaa
set_option linter.unusedSimpArgs false
set_option linter.unusedVariables false
open Go.RowKit
def srtB (zs : List Int) : Bool := (List.range (zs.length - 1)).all fun i => decide (zs.getD i 0 ≤ zs.getD (i + 1) 0)
theorem srt_iff {zs : List Int} : srtB zs = true ↔ ∀ i, i + 1 < zs.length → zs.getD i 0 ≤ zs.getD (i + 1) 0 := by
 unfold srtB
 simp only [List.all_eq_true, List.mem_range, decide_eq_true_eq]
 exact ⟨fun h i hi => h i (by omega), fun h i hi => h i (by omega)⟩
theorem srt3 (a b c : Int) : srtB [a, b, c] = (decide (a ≤ b) && decide (b ≤ c)) := by
 rw [Bool.eq_iff_iff, srt_iff]
 simp only [decide_eq_true_eq, Bool.and_eq_true]
 constructor
 ·
  intro h; exact ⟨h 0 (by simp), h 1 (by simp)⟩
 ·
  rintro ⟨h1, h2⟩ i hi
  match i, hi with
  | 0, _ => exact h1
  | 1, _ => exact h2
  | i + 2, hi => (simp at hi; omega)
theorem srt4 (a b c d : Int) : srtB [a, b, c, d] = (decide (a ≤ b) && (decide (b ≤ c) && decide (c ≤ d))) := by
 rw [Bool.eq_iff_iff, srt_iff]
 simp only [decide_eq_true_eq, Bool.and_eq_true]
 constructor
 ·
  intro h; exact ⟨h 0 (by simp), h 1 (by simp), h 2 (by simp)⟩
 ·
  rintro ⟨h1, h2, h3⟩ i hi
  match i, hi with
  | 0, _ => exact h1
  | 1, _ => exact h2
  | 2, _ => exact h3
  | i + 3, hi => (simp at hi; omega)
set_option maxHeartbeats 1600000 in
theorem isnan_any (a : Int) (w : World) :
  Calls Try.prog 128 #[.int .i64 a] w fun e w' => e = .returned (.bool false) ∧ w = w' := by
 have h : (a != a) = false := by simp
 go_enter Try.func128, Try.ntmps128
 go_wp2_with fail
 go_ret
 exact ⟨rfl, rfl⟩
set_option maxHeartbeats 1600000 in
theorem less_any (a b : Int) (w : World) :
  Calls Try.prog 109 #[.int .i64 a, .int .i64 b] w fun e w' => e = .returned (.bool (decide (a < b))) ∧ w = w' := by
 by_cases h : a < b
 ·
  go_enter Try.func109, Try.ntmps109
  go_wp2_with (go_at_call 128; refine (isnan_any _ _).mono ?_; rintro e w' ⟨rfl, rfl⟩)
  go_ret
  exact ⟨ret_bool (by simp [h]), rfl⟩
 ·
  go_enter Try.func109, Try.ntmps109
  go_wp2_with (go_at_call 128; refine (isnan_any _ _).mono ?_; rintro e w' ⟨rfl, rfl⟩)
  go_ret
  exact ⟨ret_bool (by first | (simp [h]; done) | (simp; omega)), rfl⟩
theorem less_p (a b : Int) (p : Bool) (hp : decide (a < b) = p) (w : World) :
  Calls Try.prog 109 #[.int .i64 a, .int .i64 b] w fun e w' => e = .returned (.bool p) ∧ w' = w := by
 subst hp
 exact (less_any a b w).mono fun _ _ h => ⟨h.1, h.2.symm⟩
set_option maxRecDepth 100000 in
set_option maxHeartbeats 1600000 in
theorem sorted_any (zs : List Int) (ad : Option Addr) (n cap : Nat) (w : World) (K : SlI w ad n zs) (hn : n ≤ 1000) :
  Calls Try.prog 94 #[.slice ad n cap] w fun e w' => e = .returned (.bool (srtB zs)) ∧ ∃ q, w' = w.drewN q := by
 obtain ⟨R, hR⟩ : ∃ R, srtB zs = R := ⟨_, rfl⟩
 rw [hR]
 have HR := Lib.hid hR
 have HK := Lib.hid K
 have HL := Lib.hid K.1
 clear hR K
 go_enter Try.func94, Try.ntmps94
 go_wp2_with fail
 go_loopw [3] (fun s wr => ∃ i : Int, -1 ≤ i ∧ i < n ∧ s = .int .i64 i ∧ Hid (∀ j : Nat, i ≤ j → j + 1 < n → zs.getD j 0 ≤ zs.getD (j + 1) 0) ∧ Hid (∃ q, wr = w.drewN q)) (fun s _ => (intOf s).toNat)
 case atStart => exact ⟨(n : Int) - 1, by omega, by omega, rfl, fun j h1 h2 => by omega, 0, rfl⟩
 case round =>
  obtain ⟨i, hi1, hi2, rfl, hS, hq⟩ := hrel
  obtain ⟨q, hq⟩ := hq.out
  subst hq
  by_cases hlt : 0 < i
  ·
   obtain ⟨b, off, z, rfl, hb, c0, hg0, _, _⟩ := HK.out.get (i := i.toNat) (by omega)
   obtain ⟨b', off', z', e, hb', c1, hg1, _, _⟩ := HK.out.get (i := (i - 1).toNat) (by omega)
   cases e
   obtain ⟨j1, hj1⟩ : ∃ j1, i - 1 = j1 := ⟨_, rfl⟩
   rw [hj1] at c1 hg1
   have i1 : 0 ≤ i := by omega
   have i2 : 0 ≤ j1 := by omega
   have i3 : j1 < n := by omega
   have HJ := Lib.hid hj1
   have HW : Hid (IntKind.i64.wrap (i - 1) = j1) := (IntWalk.i64_in (i - 1) (by omega)).trans hj1
   clear hj1
   obtain ⟨p, hp⟩ : ∃ p, decide (z < z') = p := ⟨_, rfl⟩
   have HP := Lib.hid hp
   clear hp
   go_wp2_with fail
   have hw1 := HW.out
   go_quiet ((go_at_call 109; exact (less_p _ _ p HP.out _).mono fun _ _ h => ⟨h.1, _, h.2⟩))
   clear hw1
   cases p with
   | true =>
    have hr : R = false := by
     rw [← HR.out]
     rw [← Bool.not_eq_true, srt_iff]
     intro h
     have hj := HJ.out
     have := h j1.toNat (by have := HL.out; omega)
     rw [show j1.toNat + 1 = i.toNat by omega, hg0.out, hg1.out] at this
     have h2 := HP.out
     simp at h2
     omega
    subst hr
    go_wp2_with fail
    go_ret
    exact ⟨rfl, _, by first | rfl | exact World.drewN_drewN _ _ _⟩
   | false =>
    go_wp2_with fail
    go_roundw
    case rel => exact ⟨i - 1, by omega, by omega, by go_num, fun j h1 h2 => by
     by_cases hj : i ≤ j
     ·
      exact hS.out j hj h2
     ·
      have hj9 := HJ.out
      obtain rfl : j = j1.toNat := by omega
      rw [show j1.toNat + 1 = i.toNat by omega, hg0.out, hg1.out]
      have h2 := HP.out
      simp at h2
      omega, _, rfl⟩
    case measure => simp [intOf]; omega
  ·
   have hr : R = true := by
    rw [← HR.out]
    rw [srt_iff]
    intro j hj
    exact hS.out j (by omega) (by have := HL.out; omega)
   subst hr
   go_wp2_with fail
   go_ret
   exact ⟨rfl, q, rfl⟩
theorem rising_any (zs : List Int) (ad : Option Addr) (n cap : Nat) (w : World) (K : SlI w ad n zs) (hn : n ≤ 1000) :
  Calls Try.prog 74 #[.slice ad n cap] w fun e w' => e = .returned (.bool (srtB zs)) ∧ Below w.heap.size w w' := by
 go_enter Try.func74, Try.ntmps74
 go_wp2_with fail
 refine (sorted_any zs ad n cap _ K hn).mono ?_
 rintro e w' ⟨rfl, q, rfl⟩
 go_wp2_with fail
 go_ret
 exact ⟨rfl, by (repeat' (first | (with_reducible first | exact Below.refl _ _ | assumption | exact Bw.out (by assumption) | refine bw_alloc ?_ _ | refine bw_step ?_ (by assumption) | refine Below.alloc ?_ ?_ _ | refine Below.drew ?_ | refine below_drewN ?_ _ | refine Below.setCell ?_ ?_ _ | refine below_step ?_ (by assumption) ?_ | exact Nat.le_refl _) | omega | (simp; omega) | (simp; done)))⟩
end Go.Proofs.Ytcmodmchnokmgaa
