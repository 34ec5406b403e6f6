/-
 What the laws of law11 share: the reference's Weekday, Few.
-/
import Derived.Test.YtcmodmchnokmgaaGreatEvS
import Derived.Test.YtcmodmchnokmgaaGreatTyI
namespace Go.Proofs.YtcmodmchnokmgaaGreat
set_option linter.unusedSimpArgs false
set_option linter.unusedVariables false
open Go.RowKit
set_option maxHeartbeats 800000 in
theorem R_weekday_any (n : Int) (w : World) :
  Calls Tryz.prog 63 #[.int .i64 n] w fun e w' => e = .returned (.tuple #[.int .i64 (dayI n), .int .i64 (dayE n)]) ∧ Below w.heap.size w w' := by
 by_cases h0 : n < 0
 ·
  have e1 : dayI n = 0 := by unfold dayI; rw [if_neg (by omega)]
  have e2 : dayE n = 1 := by unfold dayE; rw [if_neg (by omega)]
  rw [e1, e2]
  go_enter Tryz.func63, Tryz.ntmps63
  go_wp2_with fail
  go_returns
  exact ⟨rfl, Below.refl _ _⟩
 by_cases h1 : 366 < n
 ·
  have e1 : dayI n = 0 := by unfold dayI; rw [if_neg (by omega)]
  have e2 : dayE n = 1 := by unfold dayE; rw [if_neg (by omega)]
  rw [e1, e2]
  go_enter Tryz.func63, Tryz.ntmps63
  go_wp2_with fail
  go_returns
  exact ⟨rfl, Below.refl _ _⟩
 ·
  have e1 : dayI n = (n + 3).tmod 7 := by unfold dayI; rw [if_pos (by omega), Int.tmod_eq_emod_of_nonneg (by omega)]
  have e2 : dayE n = 0 := by unfold dayE; rw [if_pos (by omega)]
  rw [e1, e2]
  have h2 : 0 ≤ n := by omega
  have h3 : n ≤ 366 := by omega
  clear e1 e2
  go_enter Tryz.func63, Tryz.ntmps63
  go_wp2_with fail
  go_returns
  refine ⟨?_, Below.refl _ _⟩
  first | rfl | simp [Int.tmod_eq_emod_of_nonneg (show 0 ≤ n + 3 by omega)]
theorem R_weekday_p (n D E : Int) (hD : dayI n = D) (hE : dayE n = E) (w : World) :
  Calls Tryz.prog 63 #[.int .i64 n] w fun e w' => e = .returned (.tuple #[.int .i64 D, .int .i64 E]) ∧ Below w.heap.size w w' := by
 subst hD hE; exact R_weekday_any n w
theorem R_fewR_p (a : Option Addr) (n cap : Nat) (l : List RateV) (w : World) (hm : n ≤ 9223372036854775807) (hs : SlR w a n l) (p : Bool) (hp : fewR l = p) :
  Calls Tryz.prog 7 #[.slice a n cap] w fun e w' => e = .returned (.bool p) ∧ Below w.heap.size w w' := by
 subst hp; exact R_few a n cap l w hm hs
end Go.Proofs.YtcmodmchnokmgaaGreat
