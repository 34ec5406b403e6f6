/-
  The walk of share.Top.
-/
import Derived.Test.YtijbhdpaikajkaaMSort
import Derived.Test.YtijbhdpaikajkaaMBase
import Derived.Test.YtijbhdpaikajkaaShareA
namespace Go.Proofs.Ytijbhdpaikajkaa
set_option linter.unusedSimpArgs false
set_option linter.unusedVariables false
open Go.RowKit

theorem cmpI_flip (a b : Int) : cmpI b a = cmpI (-a) (-b) := by
  have h1 : (b < a) = (-a < -b) := by simp
  have h2 : (a < b) = (-b < -a) := by simp
  unfold cmpI; simp only [h1, h2]

set_option maxRecDepth 100000 in
set_option maxHeartbeats 1600000 in
theorem top1_any (a : Option Addr) (n cap : Nat) (zs : List Int) (p : Nat) (w : World) (hs : SlI w a n zs) (hp : w.cell? ⟨p, 0, none⟩ = some (.slice a n cap)) (hm : n ≤ 1000000) :
    CmpAt 70 (shKey zs) n ⟨p, 0, none⟩ w := by
  intro x y x1 x2 y1 y2
  obtain ⟨i, rfl⟩ := Int.eq_ofNat_of_zero_le x1
  obtain ⟨j, rfl⟩ := Int.eq_ofNat_of_zero_le y1
  obtain ⟨b, off, zx, ha, hb, c1, g1, _, _⟩ := hs.get (i := i) (by omega)
  obtain ⟨b', off', zy, ha', hb', c2, g2, _, _⟩ := hs.get (i := j) (by omega)
  rw [ha] at ha'
  cases ha'
  subst ha
  have e : Hid (cmpI (shKey zs i) (shKey zs j) = cmpI zy zx) := by
    show _ = _
    unfold shKey
    rw [cmpI_flip zx zy]
    simp only [Int.toNat_natCast]
    rw [g1.out, g2.out]
  rw [e.out]
  clear g1 g2 hs
  go_enter Try.func70, Try.ntmps70
  go_wp2_with fail
  go_quiet ((go_at_call 71; exact Calls.quiet_of_same ((compare_int _ _ _).mono fun _ _ h => ⟨h.1, h.2.symm⟩)))
  go_wp2_with fail
  go_ret
  exact ⟨rfl, _, rfl⟩

set_option maxHeartbeats 800000 in
theorem insertion_nil (w : World) (f : Value) : Calls Try.prog 82 #[.slice none 0 0, .int .i64 0, .int .i64 0, f] w fun e w' => e = .returned (.tuple #[]) ∧ w = w' := by
  go_enter Try.func82, Try.ntmps82
  go_wp2_with fail
  refine wp_loop_rounds 1 ?_
  rw [rounds_succ]
  go_wp2_with fail
  go_end0
  exact ⟨rfl, rfl⟩
set_option maxHeartbeats 800000 in
theorem stable_nil (w : World) (f : Value) : Calls Try.prog 77 #[.slice none 0 0, .int .i64 0, f] w fun e w' => e = .returned (.tuple #[]) ∧ w = w' := by
  go_enter Try.func77, Try.ntmps77
  go_wp2_with fail
  refine wp_loop_rounds 1 ?_
  rw [rounds_succ]
  go_wp2_with (go_at_call 82; refine (insertion_nil _ _).mono ?_; rintro e w' ⟨rfl, rfl⟩)
  refine wp_loop_rounds 1 ?_
  rw [rounds_succ]
  go_wp2_with fail
  go_end0
  exact ⟨rfl, rfl⟩
set_option maxHeartbeats 800000 in
theorem sortStable_nil (w : World) (f : Value) : Calls Try.prog 69 #[.slice none 0 0, f] w fun e w' => e = .returned (.tuple #[]) ∧ w = w' := by
  go_enter Try.func69, Try.ntmps69
  go_wp2_with (go_at_call 77; refine (stable_nil _ _).mono ?_; rintro e w' ⟨rfl, rfl⟩)
  go_end0
  exact ⟨rfl, rfl⟩

end Go.Proofs.Ytijbhdpaikajkaa
