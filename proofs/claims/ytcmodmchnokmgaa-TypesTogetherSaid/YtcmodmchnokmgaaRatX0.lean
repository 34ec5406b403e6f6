/-
  Plain facts on the size of an integer.
-/
import Derived.Test.YtcmodmchnokmgaaRatW
namespace Go.Proofs.Ytcmodmchnokmgaa
set_option linter.unusedSimpArgs false
set_option linter.unusedVariables false

theorem absI_le {n m : Int} (h1 : -m ≤ n) (h2 : n ≤ m) : absI n ≤ m := by rw [absI_eq]; omega
theorem absI_gt {n m : Int} (h0 : 0 ≤ m) (h : ¬ (-m ≤ n ∧ n ≤ m)) : m < absI n := by rw [absI_eq]; omega


end Go.Proofs.Ytcmodmchnokmgaa
