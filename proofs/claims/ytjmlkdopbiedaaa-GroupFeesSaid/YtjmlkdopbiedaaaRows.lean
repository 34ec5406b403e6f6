/-
  No cell of these rows narrows 'for every input' (looked for: loops, veiled, ifaces, maps, wideKeys, modest, calm, conditions, laid).
  DERIVED. THE GIVEN ROWS OF THIS SEAT. 6 by the template 'for every input the law returns true; each argument reads behind the call as it read before'; 0 by the template 'total and deterministic' (their statements: YtjmlkdopbiedaaaTotals.lean).
  GIVEN WITH THE SEED: the statements are not yours to turn. If you find one false, say at which input.
  Laid BY PROGRAM, IN A SANDBOX (cutbox-rows.mjs): the forced cells as the released guide's own fill.sh prints them over the translation 6fd1f7df765bc02c… (all of the seat's roots in one cut). By AI agents, Wed Nov 11 2026. No macro, syntax, notation, axiom, sorry.
-/
import Derived.Test.YtjmlkdopbiedaaaChecked
import GoSem.Claim
import GoSem.ClaimJoined
import GoSem.ClaimMapViews
import Derived.JoinedTies
import Derived.KernelRfl
namespace Go.Proofs.Ytjmlkdopbiedaaa
/- THE CELL 'sum', in the pinned program and in every row, IS THE sha256 OF THE DUMP (.gsa) THAT YtjmlkdopbiedaaaProg.lean LOADS. Nothing in Lean hashes anything: it is a label: what it is worth is what the hold of that sum in a sandbox is worth. -/
noncomputable def Try.pinned : Pinned := { name := "ytjmlkdopbiedaaa", sum := "6fd1f7df765bc02c2bd81227757a35bdf3dd00e196ec155c71c9d7ec2c52ea5f", checked := Try.checked }
namespace Rows
def none {H : Type} : Left H := { results := [], args := [] }

/-- 'innkeeperlaw27.GroupMatchesReference': WHATEVER THE INPUT: true; the input reads as it did. -/
def groupMatchesReferenceSpec : ChangeSpec := { name := "groupMatchesReference", fn := fun _ => fun
  | [d1, d2, d3, d4] => { results := [.lit (.bool true)], args := [d1, d2, d3, d4] }
  | _ => none }
def groupMatchesReferenceRow : OpenClaim := { program := "ytjmlkdopbiedaaa", sum := "6fd1f7df765bc02c2bd81227757a35bdf3dd00e196ec155c71c9d7ec2c52ea5f", func := "innkeeper/innkeeperlaw27.GroupMatchesReference", spec := "groupMatchesReference", unfollowed := true, recurses := true, apart := false }
def GroupMatchesReferenceSaid : Prop := groupMatchesReferenceRow.holds Try.pinned (OpenSpec.ofChange groupMatchesReferenceSpec)

/-- ITS FALSE NEIGHBOUR: 'it returns false'. Refute it at one input. -/
def groupMatchesReferenceWrong : ChangeSpec := { name := "groupMatchesReference", fn := fun _ => fun
  | [d1, d2, d3, d4] => { results := [.lit (.bool false)], args := [d1, d2, d3, d4] }
  | _ => none }
def GroupMatchesReferenceWrongFalsely : Prop := groupMatchesReferenceRow.holds Try.pinned (OpenSpec.ofChange groupMatchesReferenceWrong)

/-- 'innkeeperlaw27.GroupShrinks': WHATEVER THE INPUT: true; the input reads as it did. -/
def groupShrinksSpec : ChangeSpec := { name := "groupShrinks", fn := fun _ => fun
  | [d1, d2, d3, d4] => { results := [.lit (.bool true)], args := [d1, d2, d3, d4] }
  | _ => none }
def groupShrinksRow : OpenClaim := { program := "ytjmlkdopbiedaaa", sum := "6fd1f7df765bc02c2bd81227757a35bdf3dd00e196ec155c71c9d7ec2c52ea5f", func := "innkeeper/innkeeperlaw27.GroupShrinks", spec := "groupShrinks", unfollowed := true, recurses := true, apart := false }
def GroupShrinksSaid : Prop := groupShrinksRow.holds Try.pinned (OpenSpec.ofChange groupShrinksSpec)

/-- ITS FALSE NEIGHBOUR: 'it returns false'. Refute it at one input. -/
def groupShrinksWrong : ChangeSpec := { name := "groupShrinks", fn := fun _ => fun
  | [d1, d2, d3, d4] => { results := [.lit (.bool false)], args := [d1, d2, d3, d4] }
  | _ => none }
def GroupShrinksWrongFalsely : Prop := groupShrinksRow.holds Try.pinned (OpenSpec.ofChange groupShrinksWrong)

/-- 'innkeeperlaw27.GroupCuts': WHATEVER THE INPUT: true; the input reads as it did. -/
def groupCutsSpec : ChangeSpec := { name := "groupCuts", fn := fun _ => fun
  | [d1, d2, d3, d4] => { results := [.lit (.bool true)], args := [d1, d2, d3, d4] }
  | _ => none }
def groupCutsRow : OpenClaim := { program := "ytjmlkdopbiedaaa", sum := "6fd1f7df765bc02c2bd81227757a35bdf3dd00e196ec155c71c9d7ec2c52ea5f", func := "innkeeper/innkeeperlaw27.GroupCuts", spec := "groupCuts", unfollowed := true, recurses := true, apart := false }
def GroupCutsSaid : Prop := groupCutsRow.holds Try.pinned (OpenSpec.ofChange groupCutsSpec)

/-- ITS FALSE NEIGHBOUR: 'it returns false'. Refute it at one input. -/
def groupCutsWrong : ChangeSpec := { name := "groupCuts", fn := fun _ => fun
  | [d1, d2, d3, d4] => { results := [.lit (.bool false)], args := [d1, d2, d3, d4] }
  | _ => none }
def GroupCutsWrongFalsely : Prop := groupCutsRow.holds Try.pinned (OpenSpec.ofChange groupCutsWrong)

/-- 'innkeeperlaw27.GroupPicks': WHATEVER THE INPUT: true; the input reads as it did. -/
def groupPicksSpec : ChangeSpec := { name := "groupPicks", fn := fun _ => fun
  | [d1, d2, d3, d4] => { results := [.lit (.bool true)], args := [d1, d2, d3, d4] }
  | _ => none }
def groupPicksRow : OpenClaim := { program := "ytjmlkdopbiedaaa", sum := "6fd1f7df765bc02c2bd81227757a35bdf3dd00e196ec155c71c9d7ec2c52ea5f", func := "innkeeper/innkeeperlaw27.GroupPicks", spec := "groupPicks", unfollowed := true, recurses := true, apart := false }
def GroupPicksSaid : Prop := groupPicksRow.holds Try.pinned (OpenSpec.ofChange groupPicksSpec)

/-- ITS FALSE NEIGHBOUR: 'it returns false'. Refute it at one input. -/
def groupPicksWrong : ChangeSpec := { name := "groupPicks", fn := fun _ => fun
  | [d1, d2, d3, d4] => { results := [.lit (.bool false)], args := [d1, d2, d3, d4] }
  | _ => none }
def GroupPicksWrongFalsely : Prop := groupPicksRow.holds Try.pinned (OpenSpec.ofChange groupPicksWrong)

/-- 'innkeeperlaw27.GroupOrder': WHATEVER THE INPUT: true; the input reads as it did. -/
def groupOrderSpec : ChangeSpec := { name := "groupOrder", fn := fun _ => fun
  | [d1, d2, d3, d4] => { results := [.lit (.bool true)], args := [d1, d2, d3, d4] }
  | _ => none }
def groupOrderRow : OpenClaim := { program := "ytjmlkdopbiedaaa", sum := "6fd1f7df765bc02c2bd81227757a35bdf3dd00e196ec155c71c9d7ec2c52ea5f", func := "innkeeper/innkeeperlaw27.GroupOrder", spec := "groupOrder", unfollowed := true, recurses := true, apart := false }
def GroupOrderSaid : Prop := groupOrderRow.holds Try.pinned (OpenSpec.ofChange groupOrderSpec)

/-- ITS FALSE NEIGHBOUR: 'it returns false'. Refute it at one input. -/
def groupOrderWrong : ChangeSpec := { name := "groupOrder", fn := fun _ => fun
  | [d1, d2, d3, d4] => { results := [.lit (.bool false)], args := [d1, d2, d3, d4] }
  | _ => none }
def GroupOrderWrongFalsely : Prop := groupOrderRow.holds Try.pinned (OpenSpec.ofChange groupOrderWrong)

/-- 'innkeeperlaw27.GroupFees': WHATEVER THE INPUT: true; the input reads as it did. -/
def groupFeesSpec : ChangeSpec := { name := "groupFees", fn := fun _ => fun
  | [d1, d2] => { results := [.lit (.bool true)], args := [d1, d2] }
  | _ => none }
def groupFeesRow : OpenClaim := { program := "ytjmlkdopbiedaaa", sum := "6fd1f7df765bc02c2bd81227757a35bdf3dd00e196ec155c71c9d7ec2c52ea5f", func := "innkeeper/innkeeperlaw27.GroupFees", spec := "groupFees", unfollowed := true, recurses := true, apart := false }
def GroupFeesSaid : Prop := groupFeesRow.holds Try.pinned (OpenSpec.ofChange groupFeesSpec)

/-- ITS FALSE NEIGHBOUR: 'it returns false'. Refute it at one input. -/
def groupFeesWrong : ChangeSpec := { name := "groupFees", fn := fun _ => fun
  | [d1, d2] => { results := [.lit (.bool false)], args := [d1, d2] }
  | _ => none }
def GroupFeesWrongFalsely : Prop := groupFeesRow.holds Try.pinned (OpenSpec.ofChange groupFeesWrong)

/- THE SECOND FORM. 'bulk': how many values and letters a reading holds, each counted each time it is reached (what is shared counts as often as it is met; a slice's spare places count too). A statement '..UptoSaid' is the law's where the arguments, and the package variables that the reading takes, are together of bulk at most 1048576: NARROWER than '..Said'. Prove '..Said' where nothing that the law and all that it calls make is longer than what came in: it says more and counts as full. Else prove '..UptoSaid'. A law counts once. -/
mutual
def uptoBulk {H : Type} : DataW H → Nat
  | .lit (.string bytes) => bytes.length + 1
  | .lit _ => 1
  | .nil => 1
  | .ptr d => uptoBulk d + 1
  | .slice elems spare => uptoBulkAll elems + uptoBulkAll spare + 1
  | .agg parts => uptoBulkAll parts + 1
  | .iface _ d => uptoBulk d + 1
  | .map entries => uptoBulkEntries entries + 1
  | .held _ => 1
def uptoBulkAll {H : Type} : List (DataW H) → Nat
  | [] => 0
  | d :: r => uptoBulk d + uptoBulkAll r
def uptoBulkEntries {H : Type} : List (Lit × DataW H) → Nat
  | [] => 0
  | x :: r => uptoBulkEntry x + uptoBulkEntries r
def uptoBulkEntry {H : Type} : Lit × DataW H → Nat
  | (.string bytes, d) => bytes.length + uptoBulk d + 1
  | (_, d) => uptoBulk d + 1
 end
def uptoSmall : (H : Type) → List (DataW H) → Bool := fun _ ds => decide (uptoBulkAll ds ≤ 1048576)
def OpenSpec.upto (s : _root_.Go.ChangeSpec) : _root_.Go.OpenSpec := { _root_.Go.OpenSpec.ofChange s with cond := some uptoSmall }

/-- 'innkeeperlaw27.GroupMatchesReference', WHERE WHAT IT READS IS OF BULK AT MOST 1048576: true; the input reads as it did. -/
def groupMatchesReferenceUptoRow : OpenClaim := { program := "ytjmlkdopbiedaaa", sum := "6fd1f7df765bc02c2bd81227757a35bdf3dd00e196ec155c71c9d7ec2c52ea5f", func := "innkeeper/innkeeperlaw27.GroupMatchesReference", spec := "groupMatchesReference", unfollowed := true, recurses := true, apart := false, narrowed := true }
def GroupMatchesReferenceUptoSaid : Prop := groupMatchesReferenceUptoRow.holds Try.pinned (OpenSpec.upto groupMatchesReferenceSpec)

/-- 'innkeeperlaw27.GroupShrinks', WHERE WHAT IT READS IS OF BULK AT MOST 1048576: true; the input reads as it did. -/
def groupShrinksUptoRow : OpenClaim := { program := "ytjmlkdopbiedaaa", sum := "6fd1f7df765bc02c2bd81227757a35bdf3dd00e196ec155c71c9d7ec2c52ea5f", func := "innkeeper/innkeeperlaw27.GroupShrinks", spec := "groupShrinks", unfollowed := true, recurses := true, apart := false, narrowed := true }
def GroupShrinksUptoSaid : Prop := groupShrinksUptoRow.holds Try.pinned (OpenSpec.upto groupShrinksSpec)

/-- 'innkeeperlaw27.GroupCuts', WHERE WHAT IT READS IS OF BULK AT MOST 1048576: true; the input reads as it did. -/
def groupCutsUptoRow : OpenClaim := { program := "ytjmlkdopbiedaaa", sum := "6fd1f7df765bc02c2bd81227757a35bdf3dd00e196ec155c71c9d7ec2c52ea5f", func := "innkeeper/innkeeperlaw27.GroupCuts", spec := "groupCuts", unfollowed := true, recurses := true, apart := false, narrowed := true }
def GroupCutsUptoSaid : Prop := groupCutsUptoRow.holds Try.pinned (OpenSpec.upto groupCutsSpec)

/-- 'innkeeperlaw27.GroupPicks', WHERE WHAT IT READS IS OF BULK AT MOST 1048576: true; the input reads as it did. -/
def groupPicksUptoRow : OpenClaim := { program := "ytjmlkdopbiedaaa", sum := "6fd1f7df765bc02c2bd81227757a35bdf3dd00e196ec155c71c9d7ec2c52ea5f", func := "innkeeper/innkeeperlaw27.GroupPicks", spec := "groupPicks", unfollowed := true, recurses := true, apart := false, narrowed := true }
def GroupPicksUptoSaid : Prop := groupPicksUptoRow.holds Try.pinned (OpenSpec.upto groupPicksSpec)

/-- 'innkeeperlaw27.GroupOrder', WHERE WHAT IT READS IS OF BULK AT MOST 1048576: true; the input reads as it did. -/
def groupOrderUptoRow : OpenClaim := { program := "ytjmlkdopbiedaaa", sum := "6fd1f7df765bc02c2bd81227757a35bdf3dd00e196ec155c71c9d7ec2c52ea5f", func := "innkeeper/innkeeperlaw27.GroupOrder", spec := "groupOrder", unfollowed := true, recurses := true, apart := false, narrowed := true }
def GroupOrderUptoSaid : Prop := groupOrderUptoRow.holds Try.pinned (OpenSpec.upto groupOrderSpec)

/-- 'innkeeperlaw27.GroupFees', WHERE WHAT IT READS IS OF BULK AT MOST 1048576: true; the input reads as it did. -/
def groupFeesUptoRow : OpenClaim := { program := "ytjmlkdopbiedaaa", sum := "6fd1f7df765bc02c2bd81227757a35bdf3dd00e196ec155c71c9d7ec2c52ea5f", func := "innkeeper/innkeeperlaw27.GroupFees", spec := "groupFees", unfollowed := true, recurses := true, apart := false, narrowed := true }
def GroupFeesUptoSaid : Prop := groupFeesUptoRow.holds Try.pinned (OpenSpec.upto groupFeesSpec)

end Rows
end Go.Proofs.Ytjmlkdopbiedaaa
