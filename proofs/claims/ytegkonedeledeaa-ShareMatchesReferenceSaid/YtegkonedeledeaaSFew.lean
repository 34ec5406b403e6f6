/-
  The walk of the share law's few.
-/
import Derived.Test.YtegkonedeledeaaWorstR
namespace Go.Proofs.Ytegkonedeledeaa
set_option linter.unusedSimpArgs false
set_option linter.unusedVariables false
open Go.RowKit

/-- Are the nights not too many, for the share law? -/
def fewL (l : List NightV) : Bool := l.all (fun x => decide (x.zs.length ≤ 40)) && decide (l.length ≤ 401)

set_option maxRecDepth 100000 in
set_option maxHeartbeats 3200000 in
theorem L_few_any (a : Option Addr) (n cap : Nat) (l : List NightV) (w : World) (hm : n ≤ 9223372036854775807) (hs : SlN w a n l) (B : Bool) (hB : fewL l = B) :
    Calls Try.prog 16 #[.slice a n cap] w fun e w' => e = .returned (.bool B) ∧ Below w.heap.size w w' := by
  have HL := Lib.hid hs.1
  have HS := Lib.hid hs
  have HB := Lib.hid hB
  clear hs hB
  go_enter Try.func16, Try.ntmps16
  go_wp2_with fail
  go_loopw [3, 4, 7] (fun _ _ u wr => ∃ k : Nat, k ≤ n ∧ k ≤ 401 ∧ u = .int .i64 k ∧ Hid ((l.take k).all (fun x => decide (x.zs.length ≤ 40)) = true) ∧ Hid (Below w.heap.size w wr)) (fun _ _ u _ => n - (intOf u).toNat)
  case atStart => exact ⟨0, Nat.zero_le _, Nat.zero_le _, rfl, (by simp : (l.take 0).all (fun x => decide (x.zs.length ≤ 40)) = true), Below.refl _ _⟩
  case round =>
    obtain ⟨k, hk, hk50, rfl, hT, hBw⟩ := hrel
    have hb0 := hBw.out
    by_cases hlt : k < n
    · obtain ⟨x, b, off, hx, _, hin, rfl, hb, c0, c1, c2⟩ := (HS.out.below hb0).get hlt
      have hxl := In_len hin
      have hxn := hin.1
      have k1 : (0 : Int) ≤ (k : Int) := by omega
      have k2 : (k : Int) < (n : Int) := by omega
      by_cases h50 : k < 401
      · by_cases h40 : x.n ≤ 40
        · have HT : Hid ((l.take (k + 1)).all (fun x => decide (x.zs.length ≤ 40)) = true) := by
            show _ = _
            rw [List.take_add_one, hx, List.all_append, hT.out]
            simp; omega
          clear hx hxl hin
          go_wp2_with fail
          go_roundw
          case rel => exact ⟨k + 1, by omega, by omega, by go_num, HT, by show Below _ _ _; (repeat' (first | (with_reducible exact Below.refl _ _) | (with_reducible assumption) | (with_reducible exact Bw.out (by with_reducible assumption)) | (with_reducible refine bw_alloc ?_ _) | (with_reducible refine bw_step ?_ (by with_reducible assumption)) | (with_reducible refine Below.alloc ?_ ?_ _) | (with_reducible refine Below.drew ?_) | (with_reducible refine below_drewN ?_ _) | (with_reducible refine Below.setCell ?_ ?_ _) | (with_reducible refine below_step ?_ (by with_reducible assumption) ?_) | (with_reducible exact Nat.le_refl _) | omega | (simp; omega) | (simp; done)))⟩
          case measure => simp [intOf]; omega
        · have hr : B = false := by
            rw [← HB.out]
            unfold fewL
            rw [Bool.and_eq_false_iff]
            refine Or.inl ?_
            rw [List.all_eq_false]
            exact ⟨x, List.mem_of_getElem? hx, by simp; omega⟩
          subst hr
          clear hx hxl hin
          go_wp2_with fail
          go_ret
          refine ⟨rfl, ?_⟩
          (repeat' (first | (with_reducible exact Below.refl _ _) | (with_reducible assumption) | (with_reducible exact Bw.out (by with_reducible assumption)) | (with_reducible refine bw_alloc ?_ _) | (with_reducible refine bw_step ?_ (by with_reducible assumption)) | (with_reducible refine Below.alloc ?_ ?_ _) | (with_reducible refine Below.drew ?_) | (with_reducible refine below_drewN ?_ _) | (with_reducible refine Below.setCell ?_ ?_ _) | (with_reducible refine below_step ?_ (by with_reducible assumption) ?_) | (with_reducible exact Nat.le_refl _) | omega | (simp; omega) | (simp; done)))
      · have h401 : (400 : Int) < (k : Int) := by omega
        have hr : B = false := by
          rw [← HB.out]
          unfold fewL
          rw [Bool.and_eq_false_iff]
          exact Or.inr (by have := HL.out; simp; omega)
        subst hr
        clear hx hxl hin
        go_wp2_with fail
        go_ret
        refine ⟨rfl, ?_⟩
        (repeat' (first | (with_reducible exact Below.refl _ _) | (with_reducible assumption) | (with_reducible exact Bw.out (by with_reducible assumption)) | (with_reducible refine bw_alloc ?_ _) | (with_reducible refine bw_step ?_ (by with_reducible assumption)) | (with_reducible refine Below.alloc ?_ ?_ _) | (with_reducible refine Below.drew ?_) | (with_reducible refine below_drewN ?_ _) | (with_reducible refine Below.setCell ?_ ?_ _) | (with_reducible refine below_step ?_ (by with_reducible assumption) ?_) | (with_reducible exact Nat.le_refl _) | omega | (simp; omega) | (simp; done)))
    · obtain rfl : n = k := by omega
      have hr : B = true := by
        rw [← HB.out]
        unfold fewL
        have := hT.out
        rw [List.take_of_length_le (by rw [HL.out]; exact Nat.le_refl _)] at this
        rw [this, Bool.true_and, HL.out]
        simp; omega
      subst hr
      go_wp2_with fail
      go_ret
      exact ⟨rfl, hb0⟩

end Go.Proofs.Ytegkonedeledeaa
