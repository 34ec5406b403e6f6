/-
  No cell of these rows narrows 'for every input' (looked for: loops, veiled, ifaces, maps, wideKeys, modest, calm, conditions, laid).
  DERIVED. THE GIVEN ROWS OF THIS SEAT. 12 by the template 'for every input the law returns true; each argument reads behind the call as it read before'; 0 by the template 'total and deterministic' (their statements: YtegkonedeledeaaTotals.lean).
  GIVEN WITH THE SEED: the statements are not yours to turn. If you find one false, say at which input.
  Laid BY PROGRAM, IN A SANDBOX (cutbox-rows.mjs): the forced cells as the released guide's own fill.sh prints them over the translation ef9d682a798ab2b2… (all of the seat's roots in one cut). By AI agents, Wed Nov 11 2026. No macro, syntax, notation, axiom, sorry.
-/
import Derived.Test.YtegkonedeledeaaChecked
import GoSem.Claim
import GoSem.ClaimJoined
import GoSem.ClaimMapViews
import Derived.JoinedTies
import Derived.KernelRfl
namespace Go.Proofs.Ytegkonedeledeaa
/- THE CELL 'sum', in the pinned program and in every row, IS THE sha256 OF THE DUMP (.gsa) THAT YtegkonedeledeaaProg.lean LOADS. Nothing in Lean hashes anything: it is a label: what it is worth is what the hold of that sum in a sandbox is worth. -/
noncomputable def Try.pinned : Pinned := { name := "ytegkonedeledeaa", sum := "ef9d682a798ab2b2cb7028364f544b04e2fd846180ed722400de54ec6c611098", checked := Try.checked }
namespace Rows
def none {H : Type} : Left H := { results := [], args := [] }

/-- 'innkeeperlaw22.ShareMatchesReference': WHATEVER THE INPUT: true; the input reads as it did. -/
def shareMatchesReferenceSpec : ChangeSpec := { name := "shareMatchesReference", fn := fun _ => fun
  | [d1, d2, d3, d4, d5] => { results := [.lit (.bool true)], args := [d1, d2, d3, d4, d5] }
  | _ => none }
def shareMatchesReferenceRow : OpenClaim := { program := "ytegkonedeledeaa", sum := "ef9d682a798ab2b2cb7028364f544b04e2fd846180ed722400de54ec6c611098", func := "innkeeper/innkeeperlaw22.ShareMatchesReference", spec := "shareMatchesReference", unfollowed := true, recurses := true, apart := false }
def ShareMatchesReferenceSaid : Prop := shareMatchesReferenceRow.holds Try.pinned (OpenSpec.ofChange shareMatchesReferenceSpec)

/-- ITS FALSE NEIGHBOUR: 'it returns false'. Refute it at one input. -/
def shareMatchesReferenceWrong : ChangeSpec := { name := "shareMatchesReference", fn := fun _ => fun
  | [d1, d2, d3, d4, d5] => { results := [.lit (.bool false)], args := [d1, d2, d3, d4, d5] }
  | _ => none }
def ShareMatchesReferenceWrongFalsely : Prop := shareMatchesReferenceRow.holds Try.pinned (OpenSpec.ofChange shareMatchesReferenceWrong)

/-- 'innkeeperlaw22.ShareTop': WHATEVER THE INPUT: true; the input reads as it did. -/
def shareTopSpec : ChangeSpec := { name := "shareTop", fn := fun _ => fun
  | [d1, d2, d3] => { results := [.lit (.bool true)], args := [d1, d2, d3] }
  | _ => none }
def shareTopRow : OpenClaim := { program := "ytegkonedeledeaa", sum := "ef9d682a798ab2b2cb7028364f544b04e2fd846180ed722400de54ec6c611098", func := "innkeeper/innkeeperlaw22.ShareTop", spec := "shareTop", unfollowed := true, recurses := true, apart := false }
def ShareTopSaid : Prop := shareTopRow.holds Try.pinned (OpenSpec.ofChange shareTopSpec)

/-- ITS FALSE NEIGHBOUR: 'it returns false'. Refute it at one input. -/
def shareTopWrong : ChangeSpec := { name := "shareTop", fn := fun _ => fun
  | [d1, d2, d3] => { results := [.lit (.bool false)], args := [d1, d2, d3] }
  | _ => none }
def ShareTopWrongFalsely : Prop := shareTopRow.holds Try.pinned (OpenSpec.ofChange shareTopWrong)

/-- 'innkeeperlaw22.ShareMore': WHATEVER THE INPUT: true; the input reads as it did. -/
def shareMoreSpec : ChangeSpec := { name := "shareMore", fn := fun _ => fun
  | [d1, d2] => { results := [.lit (.bool true)], args := [d1, d2] }
  | _ => none }
def shareMoreRow : OpenClaim := { program := "ytegkonedeledeaa", sum := "ef9d682a798ab2b2cb7028364f544b04e2fd846180ed722400de54ec6c611098", func := "innkeeper/innkeeperlaw22.ShareMore", spec := "shareMore", unfollowed := true, recurses := true, apart := false }
def ShareMoreSaid : Prop := shareMoreRow.holds Try.pinned (OpenSpec.ofChange shareMoreSpec)

/-- ITS FALSE NEIGHBOUR: 'it returns false'. Refute it at one input. -/
def shareMoreWrong : ChangeSpec := { name := "shareMore", fn := fun _ => fun
  | [d1, d2] => { results := [.lit (.bool false)], args := [d1, d2] }
  | _ => none }
def ShareMoreWrongFalsely : Prop := shareMoreRow.holds Try.pinned (OpenSpec.ofChange shareMoreWrong)

/-- 'innkeeperlaw22.ShareSells': WHATEVER THE INPUT: true; the input reads as it did. -/
def shareSellsSpec : ChangeSpec := { name := "shareSells", fn := fun _ => fun
  | [d1, d2, d3, d4] => { results := [.lit (.bool true)], args := [d1, d2, d3, d4] }
  | _ => none }
def shareSellsRow : OpenClaim := { program := "ytegkonedeledeaa", sum := "ef9d682a798ab2b2cb7028364f544b04e2fd846180ed722400de54ec6c611098", func := "innkeeper/innkeeperlaw22.ShareSells", spec := "shareSells", unfollowed := true, recurses := true, apart := false }
def ShareSellsSaid : Prop := shareSellsRow.holds Try.pinned (OpenSpec.ofChange shareSellsSpec)

/-- ITS FALSE NEIGHBOUR: 'it returns false'. Refute it at one input. -/
def shareSellsWrong : ChangeSpec := { name := "shareSells", fn := fun _ => fun
  | [d1, d2, d3, d4] => { results := [.lit (.bool false)], args := [d1, d2, d3, d4] }
  | _ => none }
def ShareSellsWrongFalsely : Prop := shareSellsRow.holds Try.pinned (OpenSpec.ofChange shareSellsWrong)

/-- 'innkeeperlaw22.ShareGrants': WHATEVER THE INPUT: true; the input reads as it did. -/
def shareGrantsSpec : ChangeSpec := { name := "shareGrants", fn := fun _ => fun
  | [d1, d2, d3] => { results := [.lit (.bool true)], args := [d1, d2, d3] }
  | _ => none }
def shareGrantsRow : OpenClaim := { program := "ytegkonedeledeaa", sum := "ef9d682a798ab2b2cb7028364f544b04e2fd846180ed722400de54ec6c611098", func := "innkeeper/innkeeperlaw22.ShareGrants", spec := "shareGrants", unfollowed := true, recurses := true, apart := false }
def ShareGrantsSaid : Prop := shareGrantsRow.holds Try.pinned (OpenSpec.ofChange shareGrantsSpec)

/-- ITS FALSE NEIGHBOUR: 'it returns false'. Refute it at one input. -/
def shareGrantsWrong : ChangeSpec := { name := "shareGrants", fn := fun _ => fun
  | [d1, d2, d3] => { results := [.lit (.bool false)], args := [d1, d2, d3] }
  | _ => none }
def ShareGrantsWrongFalsely : Prop := shareGrantsRow.holds Try.pinned (OpenSpec.ofChange shareGrantsWrong)

/-- 'innkeeperlaw22.ShareSteps': WHATEVER THE INPUT: true; the input reads as it did. -/
def shareStepsSpec : ChangeSpec := { name := "shareSteps", fn := fun _ => fun
  | [d1, d2, d3, d4, d5] => { results := [.lit (.bool true)], args := [d1, d2, d3, d4, d5] }
  | _ => none }
def shareStepsRow : OpenClaim := { program := "ytegkonedeledeaa", sum := "ef9d682a798ab2b2cb7028364f544b04e2fd846180ed722400de54ec6c611098", func := "innkeeper/innkeeperlaw22.ShareSteps", spec := "shareSteps", unfollowed := true, recurses := true, apart := false }
def ShareStepsSaid : Prop := shareStepsRow.holds Try.pinned (OpenSpec.ofChange shareStepsSpec)

/-- ITS FALSE NEIGHBOUR: 'it returns false'. Refute it at one input. -/
def shareStepsWrong : ChangeSpec := { name := "shareSteps", fn := fun _ => fun
  | [d1, d2, d3, d4, d5] => { results := [.lit (.bool false)], args := [d1, d2, d3, d4, d5] }
  | _ => none }
def ShareStepsWrongFalsely : Prop := shareStepsRow.holds Try.pinned (OpenSpec.ofChange shareStepsWrong)

/-- 'innkeeperlaw23.WorstMatchesReference': WHATEVER THE INPUT: true; the input reads as it did. -/
def worstMatchesReferenceSpec : ChangeSpec := { name := "worstMatchesReference", fn := fun _ => fun
  | [d1, d2, d3, d4] => { results := [.lit (.bool true)], args := [d1, d2, d3, d4] }
  | _ => none }
def worstMatchesReferenceRow : OpenClaim := { program := "ytegkonedeledeaa", sum := "ef9d682a798ab2b2cb7028364f544b04e2fd846180ed722400de54ec6c611098", func := "innkeeper/innkeeperlaw23.WorstMatchesReference", spec := "worstMatchesReference", unfollowed := true, recurses := true, apart := false }
def WorstMatchesReferenceSaid : Prop := worstMatchesReferenceRow.holds Try.pinned (OpenSpec.ofChange worstMatchesReferenceSpec)

/-- ITS FALSE NEIGHBOUR: 'it returns false'. Refute it at one input. -/
def worstMatchesReferenceWrong : ChangeSpec := { name := "worstMatchesReference", fn := fun _ => fun
  | [d1, d2, d3, d4] => { results := [.lit (.bool false)], args := [d1, d2, d3, d4] }
  | _ => none }
def WorstMatchesReferenceWrongFalsely : Prop := worstMatchesReferenceRow.holds Try.pinned (OpenSpec.ofChange worstMatchesReferenceWrong)

/-- 'innkeeperlaw23.WorstExact': WHATEVER THE INPUT: true; the input reads as it did. -/
def worstExactSpec : ChangeSpec := { name := "worstExact", fn := fun _ => fun
  | [d1, d2, d3] => { results := [.lit (.bool true)], args := [d1, d2, d3] }
  | _ => none }
def worstExactRow : OpenClaim := { program := "ytegkonedeledeaa", sum := "ef9d682a798ab2b2cb7028364f544b04e2fd846180ed722400de54ec6c611098", func := "innkeeper/innkeeperlaw23.WorstExact", spec := "worstExact", unfollowed := true, recurses := true, apart := false }
def WorstExactSaid : Prop := worstExactRow.holds Try.pinned (OpenSpec.ofChange worstExactSpec)

/-- ITS FALSE NEIGHBOUR: 'it returns false'. Refute it at one input. -/
def worstExactWrong : ChangeSpec := { name := "worstExact", fn := fun _ => fun
  | [d1, d2, d3] => { results := [.lit (.bool false)], args := [d1, d2, d3] }
  | _ => none }
def WorstExactWrongFalsely : Prop := worstExactRow.holds Try.pinned (OpenSpec.ofChange worstExactWrong)

/-- 'innkeeperlaw23.WorstScenes': WHATEVER THE INPUT: true; the input reads as it did. -/
def worstScenesSpec : ChangeSpec := { name := "worstScenes", fn := fun _ => fun
  | [d1, d2, d3] => { results := [.lit (.bool true)], args := [d1, d2, d3] }
  | _ => none }
def worstScenesRow : OpenClaim := { program := "ytegkonedeledeaa", sum := "ef9d682a798ab2b2cb7028364f544b04e2fd846180ed722400de54ec6c611098", func := "innkeeper/innkeeperlaw23.WorstScenes", spec := "worstScenes", unfollowed := true, recurses := true, apart := false }
def WorstScenesSaid : Prop := worstScenesRow.holds Try.pinned (OpenSpec.ofChange worstScenesSpec)

/-- ITS FALSE NEIGHBOUR: 'it returns false'. Refute it at one input. -/
def worstScenesWrong : ChangeSpec := { name := "worstScenes", fn := fun _ => fun
  | [d1, d2, d3] => { results := [.lit (.bool false)], args := [d1, d2, d3] }
  | _ => none }
def WorstScenesWrongFalsely : Prop := worstScenesRow.holds Try.pinned (OpenSpec.ofChange worstScenesWrong)

/-- 'innkeeperlaw23.WorstLeast': WHATEVER THE INPUT: true; the input reads as it did. -/
def worstLeastSpec : ChangeSpec := { name := "worstLeast", fn := fun _ => fun
  | [d1, d2, d3] => { results := [.lit (.bool true)], args := [d1, d2, d3] }
  | _ => none }
def worstLeastRow : OpenClaim := { program := "ytegkonedeledeaa", sum := "ef9d682a798ab2b2cb7028364f544b04e2fd846180ed722400de54ec6c611098", func := "innkeeper/innkeeperlaw23.WorstLeast", spec := "worstLeast", unfollowed := true, recurses := true, apart := false }
def WorstLeastSaid : Prop := worstLeastRow.holds Try.pinned (OpenSpec.ofChange worstLeastSpec)

/-- ITS FALSE NEIGHBOUR: 'it returns false'. Refute it at one input. -/
def worstLeastWrong : ChangeSpec := { name := "worstLeast", fn := fun _ => fun
  | [d1, d2, d3] => { results := [.lit (.bool false)], args := [d1, d2, d3] }
  | _ => none }
def WorstLeastWrongFalsely : Prop := worstLeastRow.holds Try.pinned (OpenSpec.ofChange worstLeastWrong)

/-- 'innkeeperlaw23.WorstGrows': WHATEVER THE INPUT: true; the input reads as it did. -/
def worstGrowsSpec : ChangeSpec := { name := "worstGrows", fn := fun _ => fun
  | [d1, d2, d3] => { results := [.lit (.bool true)], args := [d1, d2, d3] }
  | _ => none }
def worstGrowsRow : OpenClaim := { program := "ytegkonedeledeaa", sum := "ef9d682a798ab2b2cb7028364f544b04e2fd846180ed722400de54ec6c611098", func := "innkeeper/innkeeperlaw23.WorstGrows", spec := "worstGrows", unfollowed := true, recurses := true, apart := false }
def WorstGrowsSaid : Prop := worstGrowsRow.holds Try.pinned (OpenSpec.ofChange worstGrowsSpec)

/-- ITS FALSE NEIGHBOUR: 'it returns false'. Refute it at one input. -/
def worstGrowsWrong : ChangeSpec := { name := "worstGrows", fn := fun _ => fun
  | [d1, d2, d3] => { results := [.lit (.bool false)], args := [d1, d2, d3] }
  | _ => none }
def WorstGrowsWrongFalsely : Prop := worstGrowsRow.holds Try.pinned (OpenSpec.ofChange worstGrowsWrong)

/-- 'innkeeperlaw23.WorstEmpty': WHATEVER THE INPUT: true; the input reads as it did. -/
def worstEmptySpec : ChangeSpec := { name := "worstEmpty", fn := fun _ => fun
  | [d1, d2, d3] => { results := [.lit (.bool true)], args := [d1, d2, d3] }
  | _ => none }
def worstEmptyRow : OpenClaim := { program := "ytegkonedeledeaa", sum := "ef9d682a798ab2b2cb7028364f544b04e2fd846180ed722400de54ec6c611098", func := "innkeeper/innkeeperlaw23.WorstEmpty", spec := "worstEmpty", unfollowed := true, recurses := true, apart := false }
def WorstEmptySaid : Prop := worstEmptyRow.holds Try.pinned (OpenSpec.ofChange worstEmptySpec)

/-- ITS FALSE NEIGHBOUR: 'it returns false'. Refute it at one input. -/
def worstEmptyWrong : ChangeSpec := { name := "worstEmpty", fn := fun _ => fun
  | [d1, d2, d3] => { results := [.lit (.bool false)], args := [d1, d2, d3] }
  | _ => none }
def WorstEmptyWrongFalsely : Prop := worstEmptyRow.holds Try.pinned (OpenSpec.ofChange worstEmptyWrong)

/- THE SECOND FORM. 'bulk': how many values and letters a reading holds, each counted each time it is reached (what is shared counts as often as it is met; a slice's spare places count too). A statement '..UptoSaid' is the law's where the arguments, and the package variables that the reading takes, are together of bulk at most 1048576: NARROWER than '..Said'. Prove '..Said' where nothing that the law and all that it calls make is longer than what came in: it says more and counts as full. Else prove '..UptoSaid'. A law counts once. -/
mutual
def uptoBulk {H : Type} : DataW H → Nat
  | .lit (.string bytes) => bytes.length + 1
  | .lit _ => 1
  | .nil => 1
  | .ptr d => uptoBulk d + 1
  | .slice elems spare => uptoBulkAll elems + uptoBulkAll spare + 1
  | .agg parts => uptoBulkAll parts + 1
  | .iface _ d => uptoBulk d + 1
  | .map entries => uptoBulkEntries entries + 1
  | .held _ => 1
def uptoBulkAll {H : Type} : List (DataW H) → Nat
  | [] => 0
  | d :: r => uptoBulk d + uptoBulkAll r
def uptoBulkEntries {H : Type} : List (Lit × DataW H) → Nat
  | [] => 0
  | x :: r => uptoBulkEntry x + uptoBulkEntries r
def uptoBulkEntry {H : Type} : Lit × DataW H → Nat
  | (.string bytes, d) => bytes.length + uptoBulk d + 1
  | (_, d) => uptoBulk d + 1
 end
def uptoSmall : (H : Type) → List (DataW H) → Bool := fun _ ds => decide (uptoBulkAll ds ≤ 1048576)
def OpenSpec.upto (s : _root_.Go.ChangeSpec) : _root_.Go.OpenSpec := { _root_.Go.OpenSpec.ofChange s with cond := some uptoSmall }

/-- 'innkeeperlaw22.ShareMatchesReference', WHERE WHAT IT READS IS OF BULK AT MOST 1048576: true; the input reads as it did. -/
def shareMatchesReferenceUptoRow : OpenClaim := { program := "ytegkonedeledeaa", sum := "ef9d682a798ab2b2cb7028364f544b04e2fd846180ed722400de54ec6c611098", func := "innkeeper/innkeeperlaw22.ShareMatchesReference", spec := "shareMatchesReference", unfollowed := true, recurses := true, apart := false, narrowed := true }
def ShareMatchesReferenceUptoSaid : Prop := shareMatchesReferenceUptoRow.holds Try.pinned (OpenSpec.upto shareMatchesReferenceSpec)

/-- 'innkeeperlaw22.ShareTop', WHERE WHAT IT READS IS OF BULK AT MOST 1048576: true; the input reads as it did. -/
def shareTopUptoRow : OpenClaim := { program := "ytegkonedeledeaa", sum := "ef9d682a798ab2b2cb7028364f544b04e2fd846180ed722400de54ec6c611098", func := "innkeeper/innkeeperlaw22.ShareTop", spec := "shareTop", unfollowed := true, recurses := true, apart := false, narrowed := true }
def ShareTopUptoSaid : Prop := shareTopUptoRow.holds Try.pinned (OpenSpec.upto shareTopSpec)

/-- 'innkeeperlaw22.ShareMore', WHERE WHAT IT READS IS OF BULK AT MOST 1048576: true; the input reads as it did. -/
def shareMoreUptoRow : OpenClaim := { program := "ytegkonedeledeaa", sum := "ef9d682a798ab2b2cb7028364f544b04e2fd846180ed722400de54ec6c611098", func := "innkeeper/innkeeperlaw22.ShareMore", spec := "shareMore", unfollowed := true, recurses := true, apart := false, narrowed := true }
def ShareMoreUptoSaid : Prop := shareMoreUptoRow.holds Try.pinned (OpenSpec.upto shareMoreSpec)

/-- 'innkeeperlaw22.ShareSells', WHERE WHAT IT READS IS OF BULK AT MOST 1048576: true; the input reads as it did. -/
def shareSellsUptoRow : OpenClaim := { program := "ytegkonedeledeaa", sum := "ef9d682a798ab2b2cb7028364f544b04e2fd846180ed722400de54ec6c611098", func := "innkeeper/innkeeperlaw22.ShareSells", spec := "shareSells", unfollowed := true, recurses := true, apart := false, narrowed := true }
def ShareSellsUptoSaid : Prop := shareSellsUptoRow.holds Try.pinned (OpenSpec.upto shareSellsSpec)

/-- 'innkeeperlaw22.ShareGrants', WHERE WHAT IT READS IS OF BULK AT MOST 1048576: true; the input reads as it did. -/
def shareGrantsUptoRow : OpenClaim := { program := "ytegkonedeledeaa", sum := "ef9d682a798ab2b2cb7028364f544b04e2fd846180ed722400de54ec6c611098", func := "innkeeper/innkeeperlaw22.ShareGrants", spec := "shareGrants", unfollowed := true, recurses := true, apart := false, narrowed := true }
def ShareGrantsUptoSaid : Prop := shareGrantsUptoRow.holds Try.pinned (OpenSpec.upto shareGrantsSpec)

/-- 'innkeeperlaw22.ShareSteps', WHERE WHAT IT READS IS OF BULK AT MOST 1048576: true; the input reads as it did. -/
def shareStepsUptoRow : OpenClaim := { program := "ytegkonedeledeaa", sum := "ef9d682a798ab2b2cb7028364f544b04e2fd846180ed722400de54ec6c611098", func := "innkeeper/innkeeperlaw22.ShareSteps", spec := "shareSteps", unfollowed := true, recurses := true, apart := false, narrowed := true }
def ShareStepsUptoSaid : Prop := shareStepsUptoRow.holds Try.pinned (OpenSpec.upto shareStepsSpec)

/-- 'innkeeperlaw23.WorstMatchesReference', WHERE WHAT IT READS IS OF BULK AT MOST 1048576: true; the input reads as it did. -/
def worstMatchesReferenceUptoRow : OpenClaim := { program := "ytegkonedeledeaa", sum := "ef9d682a798ab2b2cb7028364f544b04e2fd846180ed722400de54ec6c611098", func := "innkeeper/innkeeperlaw23.WorstMatchesReference", spec := "worstMatchesReference", unfollowed := true, recurses := true, apart := false, narrowed := true }
def WorstMatchesReferenceUptoSaid : Prop := worstMatchesReferenceUptoRow.holds Try.pinned (OpenSpec.upto worstMatchesReferenceSpec)

/-- 'innkeeperlaw23.WorstExact', WHERE WHAT IT READS IS OF BULK AT MOST 1048576: true; the input reads as it did. -/
def worstExactUptoRow : OpenClaim := { program := "ytegkonedeledeaa", sum := "ef9d682a798ab2b2cb7028364f544b04e2fd846180ed722400de54ec6c611098", func := "innkeeper/innkeeperlaw23.WorstExact", spec := "worstExact", unfollowed := true, recurses := true, apart := false, narrowed := true }
def WorstExactUptoSaid : Prop := worstExactUptoRow.holds Try.pinned (OpenSpec.upto worstExactSpec)

/-- 'innkeeperlaw23.WorstScenes', WHERE WHAT IT READS IS OF BULK AT MOST 1048576: true; the input reads as it did. -/
def worstScenesUptoRow : OpenClaim := { program := "ytegkonedeledeaa", sum := "ef9d682a798ab2b2cb7028364f544b04e2fd846180ed722400de54ec6c611098", func := "innkeeper/innkeeperlaw23.WorstScenes", spec := "worstScenes", unfollowed := true, recurses := true, apart := false, narrowed := true }
def WorstScenesUptoSaid : Prop := worstScenesUptoRow.holds Try.pinned (OpenSpec.upto worstScenesSpec)

/-- 'innkeeperlaw23.WorstLeast', WHERE WHAT IT READS IS OF BULK AT MOST 1048576: true; the input reads as it did. -/
def worstLeastUptoRow : OpenClaim := { program := "ytegkonedeledeaa", sum := "ef9d682a798ab2b2cb7028364f544b04e2fd846180ed722400de54ec6c611098", func := "innkeeper/innkeeperlaw23.WorstLeast", spec := "worstLeast", unfollowed := true, recurses := true, apart := false, narrowed := true }
def WorstLeastUptoSaid : Prop := worstLeastUptoRow.holds Try.pinned (OpenSpec.upto worstLeastSpec)

/-- 'innkeeperlaw23.WorstGrows', WHERE WHAT IT READS IS OF BULK AT MOST 1048576: true; the input reads as it did. -/
def worstGrowsUptoRow : OpenClaim := { program := "ytegkonedeledeaa", sum := "ef9d682a798ab2b2cb7028364f544b04e2fd846180ed722400de54ec6c611098", func := "innkeeper/innkeeperlaw23.WorstGrows", spec := "worstGrows", unfollowed := true, recurses := true, apart := false, narrowed := true }
def WorstGrowsUptoSaid : Prop := worstGrowsUptoRow.holds Try.pinned (OpenSpec.upto worstGrowsSpec)

/-- 'innkeeperlaw23.WorstEmpty', WHERE WHAT IT READS IS OF BULK AT MOST 1048576: true; the input reads as it did. -/
def worstEmptyUptoRow : OpenClaim := { program := "ytegkonedeledeaa", sum := "ef9d682a798ab2b2cb7028364f544b04e2fd846180ed722400de54ec6c611098", func := "innkeeper/innkeeperlaw23.WorstEmpty", spec := "worstEmpty", unfollowed := true, recurses := true, apart := false, narrowed := true }
def WorstEmptyUptoSaid : Prop := worstEmptyUptoRow.holds Try.pinned (OpenSpec.upto worstEmptySpec)

end Rows
end Go.Proofs.Ytegkonedeledeaa
