/-
  Package scene, first part: within, isAsk; sales in memory; areSales.
-/
import Derived.Test.YtdijdfhlmnhcjaaOwnV
import Derived.Test.YtdijdfhlmnhcjaaMapI
import Derived.Test.YtdijdfhlmnhcjaaBase2
import Derived.IntWalk
namespace Go.Proofs.Ytdijdfhlmnhcjaa
set_option linter.unusedSimpArgs false
set_option linter.unusedVariables false
open Go.RowKit

def inR (n lo hi : Int) : Bool := decide (lo ≤ n) && decide (n ≤ hi)
theorem inR_iff {n lo hi : Int} : inR n lo hi = true ↔ lo ≤ n ∧ n ≤ hi := by unfold inR; simp
theorem inR_no {n lo hi : Int} : inR n lo hi = false ↔ ¬ (lo ≤ n ∧ n ≤ hi) := by rw [← inR_iff]; simp
set_option maxHeartbeats 800000 in
theorem s_within (n lo hi : Int) (w : World) (b : Bool) (hb : inR n lo hi = b) :
    Calls Try.prog 30 #[.int .i64 n, .int .i64 lo, .int .i64 hi] w fun e w' => e = .returned (.bool b) ∧ w' = w := by
  subst hb
  by_cases h1 : lo ≤ n
  · by_cases h2 : n ≤ hi
    · rw [inR_iff.2 ⟨h1, h2⟩]
      go_enter Try.func30, Try.ntmps30
      go_wp2_with fail
      go_ret
      exact ⟨ret_bool (by first | rfl | (simp; done) | (simp; omega)), rfl⟩
    · rw [inR_no.2 (by omega)]
      go_enter Try.func30, Try.ntmps30
      go_wp2_with fail
      go_ret
      exact ⟨ret_bool (by first | rfl | (simp; done) | (simp; omega)), rfl⟩
  · rw [inR_no.2 (by omega)]
    go_enter Try.func30, Try.ntmps30
    go_wp2_with fail
    go_ret
    exact ⟨ret_bool (by first | rfl | (simp; done) | (simp; omega)), rfl⟩

def askU (f : Int) : Int := if f + 60 < 366 then f + 60 else 366
def askB (k f u p : Int) : Bool := inR k 1 20 && (inR f 0 366 && (inR u (f + 1) (askU f) && inR p 1 8))

set_option maxRecDepth 100000 in
set_option maxHeartbeats 1600000 in
theorem isAsk_any (k f u p : Int) (w : World) (b : Bool) (hb : askB k f u p = b) (hf0 : -9223372036854775808 ≤ f) (hf1 : f ≤ 9223372036854775807) :
    Calls Try.prog 58 #[.agg #[.int .i64 k, .int .i64 f, .int .i64 u, .int .i64 p]] w fun e w' => e = .returned (.bool b) ∧ Below w.heap.size w w' := by
  subst hb
  have HBx : Hid (Below w.heap.size w (w.alloc (.cells #[.int .i64 k, .int .i64 f, .int .i64 u, .int .i64 p] 42))) := by show Below _ _ _; (repeat' (first | (with_reducible exact Below.refl _ _) | (with_reducible assumption) | (with_reducible exact Bw.out (by with_reducible assumption)) | (with_reducible refine bw_alloc ?_ _) | (with_reducible refine bw_step ?_ (by with_reducible assumption)) | (with_reducible refine Below.alloc ?_ ?_ _) | (with_reducible refine Below.drew ?_) | (with_reducible refine below_drewN ?_ _) | (with_reducible refine Below.setCell ?_ ?_ _) | (with_reducible refine below_step ?_ (by with_reducible assumption) ?_) | (with_reducible exact Nat.le_refl _) | omega | (simp; omega) | (simp; done)))
  cases h1 : inR k 1 20 with
  | false =>
    go_enter Try.func58, Try.ntmps58
    go_wp2_with fail
    refine (s_within _ _ _ _ false (by assumption)).mono ?_
    rintro e w' ⟨rfl, rfl⟩
    go_wp2_with fail
    go_ret
    exact ⟨ret_bool (by simp [askB, h1]), HBx.out⟩
  | true =>
    cases h2 : inR f 0 366 with
    | false =>
      go_enter Try.func58, Try.ntmps58
      go_wp2_with fail
      refine (s_within _ _ _ _ true (by assumption)).mono ?_
      rintro e w' ⟨rfl, rfl⟩
      go_wp2_with fail
      refine (s_within _ _ _ _ false (by assumption)).mono ?_
      rintro e w' ⟨rfl, rfl⟩
      go_wp2_with fail
      go_ret
      exact ⟨ret_bool (by simp [askB, h1, h2]), HBx.out⟩
    | true =>
      obtain ⟨f0, f1⟩ := inR_iff.1 h2
      by_cases hm : f + 60 < 366
      · have hU : askU f = f + 60 := if_pos hm
        cases h3 : inR u (f + 1) (f + 60) with
        | false =>
          go_enter Try.func58, Try.ntmps58
          go_wp2_with fail
          refine (s_within _ _ _ _ true (by assumption)).mono ?_
          rintro e w' ⟨rfl, rfl⟩
          go_wp2_with fail
          refine (s_within _ _ _ _ true (by assumption)).mono ?_
          rintro e w' ⟨rfl, rfl⟩
          go_wp2_with fail
          refine (s_within _ _ _ _ false (by assumption)).mono ?_
          rintro e w' ⟨rfl, rfl⟩
          go_wp2_with fail
          go_ret
          exact ⟨ret_bool (by simp [askB, h1, h2, h3, hU]), HBx.out⟩
        | true =>
          cases h4 : inR p 1 8 with
          | false =>
            go_enter Try.func58, Try.ntmps58
            go_wp2_with fail
            refine (s_within _ _ _ _ true (by assumption)).mono ?_
            rintro e w' ⟨rfl, rfl⟩
            go_wp2_with fail
            refine (s_within _ _ _ _ true (by assumption)).mono ?_
            rintro e w' ⟨rfl, rfl⟩
            go_wp2_with fail
            refine (s_within _ _ _ _ true (by assumption)).mono ?_
            rintro e w' ⟨rfl, rfl⟩
            go_wp2_with fail
            refine (s_within _ _ _ _ false (by assumption)).mono ?_
            rintro e w' ⟨rfl, rfl⟩
            go_wp2_with fail
            go_ret
            exact ⟨ret_bool (by simp [askB, h1, h2, h3, h4, hU]), HBx.out⟩
          | true =>
            go_enter Try.func58, Try.ntmps58
            go_wp2_with fail
            refine (s_within _ _ _ _ true (by assumption)).mono ?_
            rintro e w' ⟨rfl, rfl⟩
            go_wp2_with fail
            refine (s_within _ _ _ _ true (by assumption)).mono ?_
            rintro e w' ⟨rfl, rfl⟩
            go_wp2_with fail
            refine (s_within _ _ _ _ true (by assumption)).mono ?_
            rintro e w' ⟨rfl, rfl⟩
            go_wp2_with fail
            refine (s_within _ _ _ _ true (by assumption)).mono ?_
            rintro e w' ⟨rfl, rfl⟩
            go_wp2_with fail
            go_ret
            exact ⟨ret_bool (by simp [askB, h1, h2, h3, h4, hU]), HBx.out⟩
      · have hU : askU f = 366 := if_neg hm
        cases h3 : inR u (f + 1) 366 with
        | false =>
          go_enter Try.func58, Try.ntmps58
          go_wp2_with fail
          refine (s_within _ _ _ _ true (by assumption)).mono ?_
          rintro e w' ⟨rfl, rfl⟩
          go_wp2_with fail
          refine (s_within _ _ _ _ true (by assumption)).mono ?_
          rintro e w' ⟨rfl, rfl⟩
          go_wp2_with fail
          refine (s_within _ _ _ _ false (by assumption)).mono ?_
          rintro e w' ⟨rfl, rfl⟩
          go_wp2_with fail
          go_ret
          exact ⟨ret_bool (by simp [askB, h1, h2, h3, hU]), HBx.out⟩
        | true =>
          cases h4 : inR p 1 8 with
          | false =>
            go_enter Try.func58, Try.ntmps58
            go_wp2_with fail
            refine (s_within _ _ _ _ true (by assumption)).mono ?_
            rintro e w' ⟨rfl, rfl⟩
            go_wp2_with fail
            refine (s_within _ _ _ _ true (by assumption)).mono ?_
            rintro e w' ⟨rfl, rfl⟩
            go_wp2_with fail
            refine (s_within _ _ _ _ true (by assumption)).mono ?_
            rintro e w' ⟨rfl, rfl⟩
            go_wp2_with fail
            refine (s_within _ _ _ _ false (by assumption)).mono ?_
            rintro e w' ⟨rfl, rfl⟩
            go_wp2_with fail
            go_ret
            exact ⟨ret_bool (by simp [askB, h1, h2, h3, h4, hU]), HBx.out⟩
          | true =>
            go_enter Try.func58, Try.ntmps58
            go_wp2_with fail
            refine (s_within _ _ _ _ true (by assumption)).mono ?_
            rintro e w' ⟨rfl, rfl⟩
            go_wp2_with fail
            refine (s_within _ _ _ _ true (by assumption)).mono ?_
            rintro e w' ⟨rfl, rfl⟩
            go_wp2_with fail
            refine (s_within _ _ _ _ true (by assumption)).mono ?_
            rintro e w' ⟨rfl, rfl⟩
            go_wp2_with fail
            refine (s_within _ _ _ _ true (by assumption)).mono ?_
            rintro e w' ⟨rfl, rfl⟩
            go_wp2_with fail
            go_ret
            exact ⟨ret_bool (by simp [askB, h1, h2, h3, h4, hU]), HBx.out⟩

end Go.Proofs.Ytdijdfhlmnhcjaa
