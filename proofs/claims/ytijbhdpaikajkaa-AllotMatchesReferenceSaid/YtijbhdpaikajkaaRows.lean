/-
  No cell of these rows narrows 'for every input' (looked for: loops, veiled, ifaces, maps, wideKeys, modest, calm, conditions, laid).
  DERIVED. THE GIVEN ROWS OF THIS SEAT. 8 by the template 'for every input the law returns true; each argument reads behind the call as it read before'; 0 by the template 'total and deterministic' (their statements: YtijbhdpaikajkaaTotals.lean).
  GIVEN WITH THE SEED: the statements are not yours to turn. If you find one false, say at which input.
  Laid BY PROGRAM, IN A SANDBOX (cutbox-rows.mjs): the forced cells as the released guide's own fill.sh prints them over the translation 3d6a7e3977d899b8… (all of the seat's roots in one cut). By AI agents, Wed Nov 11 2026. No macro, syntax, notation, axiom, sorry.
-/
import Derived.Test.YtijbhdpaikajkaaChecked
import GoSem.Claim
import GoSem.ClaimJoined
import GoSem.ClaimMapViews
import Derived.JoinedTies
import Derived.KernelRfl
namespace Go.Proofs.Ytijbhdpaikajkaa
/- THE CELL 'sum', in the pinned program and in every row, IS THE sha256 OF THE DUMP (.gsa) THAT YtijbhdpaikajkaaProg.lean LOADS. Nothing in Lean hashes anything: it is a label: what it is worth is what the hold of that sum in a sandbox is worth. -/
noncomputable def Try.pinned : Pinned := { name := "ytijbhdpaikajkaa", sum := "3d6a7e3977d899b8306ebd78a953759bb06fec1da0a5d1279437f88c83f80f45", checked := Try.checked }
namespace Rows
def none {H : Type} : Left H := { results := [], args := [] }

/-- 'innkeeperlaw24.AllotMatchesReference': WHATEVER THE INPUT: true; the input reads as it did. -/
def allotMatchesReferenceSpec : ChangeSpec := { name := "allotMatchesReference", fn := fun _ => fun
  | [d1, d2, d3, d4, d5, d6, d7, d8] => { results := [.lit (.bool true)], args := [d1, d2, d3, d4, d5, d6, d7, d8] }
  | _ => none }
def allotMatchesReferenceRow : OpenClaim := { program := "ytijbhdpaikajkaa", sum := "3d6a7e3977d899b8306ebd78a953759bb06fec1da0a5d1279437f88c83f80f45", func := "innkeeper/innkeeperlaw24.AllotMatchesReference", spec := "allotMatchesReference", unfollowed := true, recurses := true, apart := false }
def AllotMatchesReferenceSaid : Prop := allotMatchesReferenceRow.holds Try.pinned (OpenSpec.ofChange allotMatchesReferenceSpec)

/-- ITS FALSE NEIGHBOUR: 'it returns false'. Refute it at one input. -/
def allotMatchesReferenceWrong : ChangeSpec := { name := "allotMatchesReference", fn := fun _ => fun
  | [d1, d2, d3, d4, d5, d6, d7, d8] => { results := [.lit (.bool false)], args := [d1, d2, d3, d4, d5, d6, d7, d8] }
  | _ => none }
def AllotMatchesReferenceWrongFalsely : Prop := allotMatchesReferenceRow.holds Try.pinned (OpenSpec.ofChange allotMatchesReferenceWrong)

/-- 'innkeeperlaw24.AllotMore': WHATEVER THE INPUT: true; the input reads as it did. -/
def allotMoreSpec : ChangeSpec := { name := "allotMore", fn := fun _ => fun
  | [d1, d2, d3, d4] => { results := [.lit (.bool true)], args := [d1, d2, d3, d4] }
  | _ => none }
def allotMoreRow : OpenClaim := { program := "ytijbhdpaikajkaa", sum := "3d6a7e3977d899b8306ebd78a953759bb06fec1da0a5d1279437f88c83f80f45", func := "innkeeper/innkeeperlaw24.AllotMore", spec := "allotMore", unfollowed := true, recurses := true, apart := false }
def AllotMoreSaid : Prop := allotMoreRow.holds Try.pinned (OpenSpec.ofChange allotMoreSpec)

/-- ITS FALSE NEIGHBOUR: 'it returns false'. Refute it at one input. -/
def allotMoreWrong : ChangeSpec := { name := "allotMore", fn := fun _ => fun
  | [d1, d2, d3, d4] => { results := [.lit (.bool false)], args := [d1, d2, d3, d4] }
  | _ => none }
def AllotMoreWrongFalsely : Prop := allotMoreRow.holds Try.pinned (OpenSpec.ofChange allotMoreWrong)

/-- 'innkeeperlaw24.AllotKeeps': WHATEVER THE INPUT: true; the input reads as it did. -/
def allotKeepsSpec : ChangeSpec := { name := "allotKeeps", fn := fun _ => fun
  | [d1, d2, d3] => { results := [.lit (.bool true)], args := [d1, d2, d3] }
  | _ => none }
def allotKeepsRow : OpenClaim := { program := "ytijbhdpaikajkaa", sum := "3d6a7e3977d899b8306ebd78a953759bb06fec1da0a5d1279437f88c83f80f45", func := "innkeeper/innkeeperlaw24.AllotKeeps", spec := "allotKeeps", unfollowed := true, recurses := true, apart := false }
def AllotKeepsSaid : Prop := allotKeepsRow.holds Try.pinned (OpenSpec.ofChange allotKeepsSpec)

/-- ITS FALSE NEIGHBOUR: 'it returns false'. Refute it at one input. -/
def allotKeepsWrong : ChangeSpec := { name := "allotKeeps", fn := fun _ => fun
  | [d1, d2, d3] => { results := [.lit (.bool false)], args := [d1, d2, d3] }
  | _ => none }
def AllotKeepsWrongFalsely : Prop := allotKeepsRow.holds Try.pinned (OpenSpec.ofChange allotKeepsWrong)

/-- 'innkeeperlaw24.AllotLeaves': WHATEVER THE INPUT: true; the input reads as it did. -/
def allotLeavesSpec : ChangeSpec := { name := "allotLeaves", fn := fun _ => fun
  | [d1, d2, d3] => { results := [.lit (.bool true)], args := [d1, d2, d3] }
  | _ => none }
def allotLeavesRow : OpenClaim := { program := "ytijbhdpaikajkaa", sum := "3d6a7e3977d899b8306ebd78a953759bb06fec1da0a5d1279437f88c83f80f45", func := "innkeeper/innkeeperlaw24.AllotLeaves", spec := "allotLeaves", unfollowed := true, recurses := true, apart := false }
def AllotLeavesSaid : Prop := allotLeavesRow.holds Try.pinned (OpenSpec.ofChange allotLeavesSpec)

/-- ITS FALSE NEIGHBOUR: 'it returns false'. Refute it at one input. -/
def allotLeavesWrong : ChangeSpec := { name := "allotLeaves", fn := fun _ => fun
  | [d1, d2, d3] => { results := [.lit (.bool false)], args := [d1, d2, d3] }
  | _ => none }
def AllotLeavesWrongFalsely : Prop := allotLeavesRow.holds Try.pinned (OpenSpec.ofChange allotLeavesWrong)

/-- 'innkeeperlaw24.AllotRefuses': WHATEVER THE INPUT: true; the input reads as it did. -/
def allotRefusesSpec : ChangeSpec := { name := "allotRefuses", fn := fun _ => fun
  | [d1, d2, d3, d4] => { results := [.lit (.bool true)], args := [d1, d2, d3, d4] }
  | _ => none }
def allotRefusesRow : OpenClaim := { program := "ytijbhdpaikajkaa", sum := "3d6a7e3977d899b8306ebd78a953759bb06fec1da0a5d1279437f88c83f80f45", func := "innkeeper/innkeeperlaw24.AllotRefuses", spec := "allotRefuses", unfollowed := true, recurses := true, apart := false }
def AllotRefusesSaid : Prop := allotRefusesRow.holds Try.pinned (OpenSpec.ofChange allotRefusesSpec)

/-- ITS FALSE NEIGHBOUR: 'it returns false'. Refute it at one input. -/
def allotRefusesWrong : ChangeSpec := { name := "allotRefuses", fn := fun _ => fun
  | [d1, d2, d3, d4] => { results := [.lit (.bool false)], args := [d1, d2, d3, d4] }
  | _ => none }
def AllotRefusesWrongFalsely : Prop := allotRefusesRow.holds Try.pinned (OpenSpec.ofChange allotRefusesWrong)

/-- 'innkeeperlaw24.AllotSells': WHATEVER THE INPUT: true; the input reads as it did. -/
def allotSellsSpec : ChangeSpec := { name := "allotSells", fn := fun _ => fun
  | [d1, d2, d3] => { results := [.lit (.bool true)], args := [d1, d2, d3] }
  | _ => none }
def allotSellsRow : OpenClaim := { program := "ytijbhdpaikajkaa", sum := "3d6a7e3977d899b8306ebd78a953759bb06fec1da0a5d1279437f88c83f80f45", func := "innkeeper/innkeeperlaw24.AllotSells", spec := "allotSells", unfollowed := true, recurses := true, apart := false }
def AllotSellsSaid : Prop := allotSellsRow.holds Try.pinned (OpenSpec.ofChange allotSellsSpec)

/-- ITS FALSE NEIGHBOUR: 'it returns false'. Refute it at one input. -/
def allotSellsWrong : ChangeSpec := { name := "allotSells", fn := fun _ => fun
  | [d1, d2, d3] => { results := [.lit (.bool false)], args := [d1, d2, d3] }
  | _ => none }
def AllotSellsWrongFalsely : Prop := allotSellsRow.holds Try.pinned (OpenSpec.ofChange allotSellsWrong)

/-- 'innkeeperlaw23.WorstMatchesReference': WHATEVER THE INPUT: true; the input reads as it did. -/
def worstMatchesReferenceSpec : ChangeSpec := { name := "worstMatchesReference", fn := fun _ => fun
  | [d1, d2, d3, d4] => { results := [.lit (.bool true)], args := [d1, d2, d3, d4] }
  | _ => none }
def worstMatchesReferenceRow : OpenClaim := { program := "ytijbhdpaikajkaa", sum := "3d6a7e3977d899b8306ebd78a953759bb06fec1da0a5d1279437f88c83f80f45", func := "innkeeper/innkeeperlaw23.WorstMatchesReference", spec := "worstMatchesReference", unfollowed := true, recurses := true, apart := false }
def WorstMatchesReferenceSaid : Prop := worstMatchesReferenceRow.holds Try.pinned (OpenSpec.ofChange worstMatchesReferenceSpec)

/-- ITS FALSE NEIGHBOUR: 'it returns false'. Refute it at one input. -/
def worstMatchesReferenceWrong : ChangeSpec := { name := "worstMatchesReference", fn := fun _ => fun
  | [d1, d2, d3, d4] => { results := [.lit (.bool false)], args := [d1, d2, d3, d4] }
  | _ => none }
def WorstMatchesReferenceWrongFalsely : Prop := worstMatchesReferenceRow.holds Try.pinned (OpenSpec.ofChange worstMatchesReferenceWrong)

/-- 'innkeeperlaw23.WorstGrows': WHATEVER THE INPUT: true; the input reads as it did. -/
def worstGrowsSpec : ChangeSpec := { name := "worstGrows", fn := fun _ => fun
  | [d1, d2, d3] => { results := [.lit (.bool true)], args := [d1, d2, d3] }
  | _ => none }
def worstGrowsRow : OpenClaim := { program := "ytijbhdpaikajkaa", sum := "3d6a7e3977d899b8306ebd78a953759bb06fec1da0a5d1279437f88c83f80f45", func := "innkeeper/innkeeperlaw23.WorstGrows", spec := "worstGrows", unfollowed := true, recurses := true, apart := false }
def WorstGrowsSaid : Prop := worstGrowsRow.holds Try.pinned (OpenSpec.ofChange worstGrowsSpec)

/-- ITS FALSE NEIGHBOUR: 'it returns false'. Refute it at one input. -/
def worstGrowsWrong : ChangeSpec := { name := "worstGrows", fn := fun _ => fun
  | [d1, d2, d3] => { results := [.lit (.bool false)], args := [d1, d2, d3] }
  | _ => none }
def WorstGrowsWrongFalsely : Prop := worstGrowsRow.holds Try.pinned (OpenSpec.ofChange worstGrowsWrong)

/- THE SECOND FORM. 'bulk': how many values and letters a reading holds, each counted each time it is reached (what is shared counts as often as it is met; a slice's spare places count too). A statement '..UptoSaid' is the law's where the arguments, and the package variables that the reading takes, are together of bulk at most 1048576: NARROWER than '..Said'. Prove '..Said' where nothing that the law and all that it calls make is longer than what came in: it says more and counts as full. Else prove '..UptoSaid'. A law counts once. -/
mutual
def uptoBulk {H : Type} : DataW H → Nat
  | .lit (.string bytes) => bytes.length + 1
  | .lit _ => 1
  | .nil => 1
  | .ptr d => uptoBulk d + 1
  | .slice elems spare => uptoBulkAll elems + uptoBulkAll spare + 1
  | .agg parts => uptoBulkAll parts + 1
  | .iface _ d => uptoBulk d + 1
  | .map entries => uptoBulkEntries entries + 1
  | .held _ => 1
def uptoBulkAll {H : Type} : List (DataW H) → Nat
  | [] => 0
  | d :: r => uptoBulk d + uptoBulkAll r
def uptoBulkEntries {H : Type} : List (Lit × DataW H) → Nat
  | [] => 0
  | x :: r => uptoBulkEntry x + uptoBulkEntries r
def uptoBulkEntry {H : Type} : Lit × DataW H → Nat
  | (.string bytes, d) => bytes.length + uptoBulk d + 1
  | (_, d) => uptoBulk d + 1
 end
def uptoSmall : (H : Type) → List (DataW H) → Bool := fun _ ds => decide (uptoBulkAll ds ≤ 1048576)
def OpenSpec.upto (s : _root_.Go.ChangeSpec) : _root_.Go.OpenSpec := { _root_.Go.OpenSpec.ofChange s with cond := some uptoSmall }

/-- 'innkeeperlaw24.AllotMatchesReference', WHERE WHAT IT READS IS OF BULK AT MOST 1048576: true; the input reads as it did. -/
def allotMatchesReferenceUptoRow : OpenClaim := { program := "ytijbhdpaikajkaa", sum := "3d6a7e3977d899b8306ebd78a953759bb06fec1da0a5d1279437f88c83f80f45", func := "innkeeper/innkeeperlaw24.AllotMatchesReference", spec := "allotMatchesReference", unfollowed := true, recurses := true, apart := false, narrowed := true }
def AllotMatchesReferenceUptoSaid : Prop := allotMatchesReferenceUptoRow.holds Try.pinned (OpenSpec.upto allotMatchesReferenceSpec)

/-- 'innkeeperlaw24.AllotMore', WHERE WHAT IT READS IS OF BULK AT MOST 1048576: true; the input reads as it did. -/
def allotMoreUptoRow : OpenClaim := { program := "ytijbhdpaikajkaa", sum := "3d6a7e3977d899b8306ebd78a953759bb06fec1da0a5d1279437f88c83f80f45", func := "innkeeper/innkeeperlaw24.AllotMore", spec := "allotMore", unfollowed := true, recurses := true, apart := false, narrowed := true }
def AllotMoreUptoSaid : Prop := allotMoreUptoRow.holds Try.pinned (OpenSpec.upto allotMoreSpec)

/-- 'innkeeperlaw24.AllotKeeps', WHERE WHAT IT READS IS OF BULK AT MOST 1048576: true; the input reads as it did. -/
def allotKeepsUptoRow : OpenClaim := { program := "ytijbhdpaikajkaa", sum := "3d6a7e3977d899b8306ebd78a953759bb06fec1da0a5d1279437f88c83f80f45", func := "innkeeper/innkeeperlaw24.AllotKeeps", spec := "allotKeeps", unfollowed := true, recurses := true, apart := false, narrowed := true }
def AllotKeepsUptoSaid : Prop := allotKeepsUptoRow.holds Try.pinned (OpenSpec.upto allotKeepsSpec)

/-- 'innkeeperlaw24.AllotLeaves', WHERE WHAT IT READS IS OF BULK AT MOST 1048576: true; the input reads as it did. -/
def allotLeavesUptoRow : OpenClaim := { program := "ytijbhdpaikajkaa", sum := "3d6a7e3977d899b8306ebd78a953759bb06fec1da0a5d1279437f88c83f80f45", func := "innkeeper/innkeeperlaw24.AllotLeaves", spec := "allotLeaves", unfollowed := true, recurses := true, apart := false, narrowed := true }
def AllotLeavesUptoSaid : Prop := allotLeavesUptoRow.holds Try.pinned (OpenSpec.upto allotLeavesSpec)

/-- 'innkeeperlaw24.AllotRefuses', WHERE WHAT IT READS IS OF BULK AT MOST 1048576: true; the input reads as it did. -/
def allotRefusesUptoRow : OpenClaim := { program := "ytijbhdpaikajkaa", sum := "3d6a7e3977d899b8306ebd78a953759bb06fec1da0a5d1279437f88c83f80f45", func := "innkeeper/innkeeperlaw24.AllotRefuses", spec := "allotRefuses", unfollowed := true, recurses := true, apart := false, narrowed := true }
def AllotRefusesUptoSaid : Prop := allotRefusesUptoRow.holds Try.pinned (OpenSpec.upto allotRefusesSpec)

/-- 'innkeeperlaw24.AllotSells', WHERE WHAT IT READS IS OF BULK AT MOST 1048576: true; the input reads as it did. -/
def allotSellsUptoRow : OpenClaim := { program := "ytijbhdpaikajkaa", sum := "3d6a7e3977d899b8306ebd78a953759bb06fec1da0a5d1279437f88c83f80f45", func := "innkeeper/innkeeperlaw24.AllotSells", spec := "allotSells", unfollowed := true, recurses := true, apart := false, narrowed := true }
def AllotSellsUptoSaid : Prop := allotSellsUptoRow.holds Try.pinned (OpenSpec.upto allotSellsSpec)

/-- 'innkeeperlaw23.WorstMatchesReference', WHERE WHAT IT READS IS OF BULK AT MOST 1048576: true; the input reads as it did. -/
def worstMatchesReferenceUptoRow : OpenClaim := { program := "ytijbhdpaikajkaa", sum := "3d6a7e3977d899b8306ebd78a953759bb06fec1da0a5d1279437f88c83f80f45", func := "innkeeper/innkeeperlaw23.WorstMatchesReference", spec := "worstMatchesReference", unfollowed := true, recurses := true, apart := false, narrowed := true }
def WorstMatchesReferenceUptoSaid : Prop := worstMatchesReferenceUptoRow.holds Try.pinned (OpenSpec.upto worstMatchesReferenceSpec)

/-- 'innkeeperlaw23.WorstGrows', WHERE WHAT IT READS IS OF BULK AT MOST 1048576: true; the input reads as it did. -/
def worstGrowsUptoRow : OpenClaim := { program := "ytijbhdpaikajkaa", sum := "3d6a7e3977d899b8306ebd78a953759bb06fec1da0a5d1279437f88c83f80f45", func := "innkeeper/innkeeperlaw23.WorstGrows", spec := "worstGrows", unfollowed := true, recurses := true, apart := false, narrowed := true }
def WorstGrowsUptoSaid : Prop := worstGrowsUptoRow.holds Try.pinned (OpenSpec.upto worstGrowsSpec)

end Rows
end Go.Proofs.Ytijbhdpaikajkaa
