/-
  No cell of these rows narrows 'for every input' (looked for: loops, veiled, ifaces, maps, wideKeys, modest, calm, conditions, laid).
  DERIVED. THE GIVEN ROWS OF THIS SEAT. 7 by the template 'for every input the law returns true; each argument reads behind the call as it read before'; 0 by the template 'total and deterministic' (their statements: YtbafhmlmibjgpaaTotals.lean).
  GIVEN WITH THE SEED: the statements are not yours to turn. If you find one false, say at which input.
  Laid BY PROGRAM, IN A SANDBOX (cutbox-rows.mjs): the forced cells as the released guide's own fill.sh prints them over the translation 9623f75ec67983e7… (all of the seat's roots in one cut). By AI agents, Wed Nov 11 2026. No macro, syntax, notation, axiom, sorry.
-/
import Derived.Test.YtbafhmlmibjgpaaChecked
import GoSem.Claim
import GoSem.ClaimJoined
import GoSem.ClaimMapViews
import Derived.JoinedTies
import Derived.KernelRfl
namespace Go.Proofs.Ytbafhmlmibjgpaa
/- THE CELL 'sum', in the pinned program and in every row, IS THE sha256 OF THE DUMP (.gsa) THAT YtbafhmlmibjgpaaProg.lean LOADS. Nothing in Lean hashes anything: it is a label: what it is worth is what the hold of that sum in a sandbox is worth. -/
noncomputable def Try.pinned : Pinned := { name := "ytbafhmlmibjgpaa", sum := "9623f75ec67983e79b1ea7c63428481d5373d193fd6e22dc2ed08960698c677d", checked := Try.checked }
namespace Rows
def none {H : Type} : Left H := { results := [], args := [] }

/-- 'innkeeperlaw18.ColourMatchesReference': WHATEVER THE INPUT: true; the input reads as it did. -/
def colourMatchesReferenceSpec : ChangeSpec := { name := "colourMatchesReference", fn := fun _ => fun
  | [d1, d2] => { results := [.lit (.bool true)], args := [d1, d2] }
  | _ => none }
def colourMatchesReferenceRow : OpenClaim := { program := "ytbafhmlmibjgpaa", sum := "9623f75ec67983e79b1ea7c63428481d5373d193fd6e22dc2ed08960698c677d", func := "innkeeper/innkeeperlaw18.ColourMatchesReference", spec := "colourMatchesReference", unfollowed := true, recurses := true, apart := false }
def ColourMatchesReferenceSaid : Prop := colourMatchesReferenceRow.holds Try.pinned (OpenSpec.ofChange colourMatchesReferenceSpec)

/-- ITS FALSE NEIGHBOUR: 'it returns false'. Refute it at one input. -/
def colourMatchesReferenceWrong : ChangeSpec := { name := "colourMatchesReference", fn := fun _ => fun
  | [d1, d2] => { results := [.lit (.bool false)], args := [d1, d2] }
  | _ => none }
def ColourMatchesReferenceWrongFalsely : Prop := colourMatchesReferenceRow.holds Try.pinned (OpenSpec.ofChange colourMatchesReferenceWrong)

/-- 'innkeeperlaw18.ColourApart': WHATEVER THE INPUT: true; the input reads as it did. -/
def colourApartSpec : ChangeSpec := { name := "colourApart", fn := fun _ => fun
  | [d] => { results := [.lit (.bool true)], args := [d] }
  | _ => none }
def colourApartRow : OpenClaim := { program := "ytbafhmlmibjgpaa", sum := "9623f75ec67983e79b1ea7c63428481d5373d193fd6e22dc2ed08960698c677d", func := "innkeeper/innkeeperlaw18.ColourApart", spec := "colourApart", unfollowed := true, recurses := true, apart := false }
def ColourApartSaid : Prop := colourApartRow.holds Try.pinned (OpenSpec.ofChange colourApartSpec)

/-- ITS FALSE NEIGHBOUR: 'it returns false'. Refute it at one input. -/
def colourApartWrong : ChangeSpec := { name := "colourApart", fn := fun _ => fun
  | [d] => { results := [.lit (.bool false)], args := [d] }
  | _ => none }
def ColourApartWrongFalsely : Prop := colourApartRow.holds Try.pinned (OpenSpec.ofChange colourApartWrong)

/-- 'innkeeperlaw18.ColourLeast': WHATEVER THE INPUT: true; the input reads as it did. -/
def colourLeastSpec : ChangeSpec := { name := "colourLeast", fn := fun _ => fun
  | [d1, d2] => { results := [.lit (.bool true)], args := [d1, d2] }
  | _ => none }
def colourLeastRow : OpenClaim := { program := "ytbafhmlmibjgpaa", sum := "9623f75ec67983e79b1ea7c63428481d5373d193fd6e22dc2ed08960698c677d", func := "innkeeper/innkeeperlaw18.ColourLeast", spec := "colourLeast", unfollowed := true, recurses := true, apart := false }
def ColourLeastSaid : Prop := colourLeastRow.holds Try.pinned (OpenSpec.ofChange colourLeastSpec)

/-- ITS FALSE NEIGHBOUR: 'it returns false'. Refute it at one input. -/
def colourLeastWrong : ChangeSpec := { name := "colourLeast", fn := fun _ => fun
  | [d1, d2] => { results := [.lit (.bool false)], args := [d1, d2] }
  | _ => none }
def ColourLeastWrongFalsely : Prop := colourLeastRow.holds Try.pinned (OpenSpec.ofChange colourLeastWrong)

/-- 'innkeeperlaw18.ColourCliques': WHATEVER THE INPUT: true; the input reads as it did. -/
def colourCliquesSpec : ChangeSpec := { name := "colourCliques", fn := fun _ => fun
  | [d1, d2] => { results := [.lit (.bool true)], args := [d1, d2] }
  | _ => none }
def colourCliquesRow : OpenClaim := { program := "ytbafhmlmibjgpaa", sum := "9623f75ec67983e79b1ea7c63428481d5373d193fd6e22dc2ed08960698c677d", func := "innkeeper/innkeeperlaw18.ColourCliques", spec := "colourCliques", unfollowed := true, recurses := true, apart := false }
def ColourCliquesSaid : Prop := colourCliquesRow.holds Try.pinned (OpenSpec.ofChange colourCliquesSpec)

/-- ITS FALSE NEIGHBOUR: 'it returns false'. Refute it at one input. -/
def colourCliquesWrong : ChangeSpec := { name := "colourCliques", fn := fun _ => fun
  | [d1, d2] => { results := [.lit (.bool false)], args := [d1, d2] }
  | _ => none }
def ColourCliquesWrongFalsely : Prop := colourCliquesRow.holds Try.pinned (OpenSpec.ofChange colourCliquesWrong)

/-- 'innkeeperlaw18.ColourFits': WHATEVER THE INPUT: true; the input reads as it did. -/
def colourFitsSpec : ChangeSpec := { name := "colourFits", fn := fun _ => fun
  | [d1, d2] => { results := [.lit (.bool true)], args := [d1, d2] }
  | _ => none }
def colourFitsRow : OpenClaim := { program := "ytbafhmlmibjgpaa", sum := "9623f75ec67983e79b1ea7c63428481d5373d193fd6e22dc2ed08960698c677d", func := "innkeeper/innkeeperlaw18.ColourFits", spec := "colourFits", unfollowed := true, recurses := true, apart := false }
def ColourFitsSaid : Prop := colourFitsRow.holds Try.pinned (OpenSpec.ofChange colourFitsSpec)

/-- ITS FALSE NEIGHBOUR: 'it returns false'. Refute it at one input. -/
def colourFitsWrong : ChangeSpec := { name := "colourFits", fn := fun _ => fun
  | [d1, d2] => { results := [.lit (.bool false)], args := [d1, d2] }
  | _ => none }
def ColourFitsWrongFalsely : Prop := colourFitsRow.holds Try.pinned (OpenSpec.ofChange colourFitsWrong)

/-- 'innkeeperlaw18.ColourLater': WHATEVER THE INPUT: true; the input reads as it did. -/
def colourLaterSpec : ChangeSpec := { name := "colourLater", fn := fun _ => fun
  | [d1, d2, d3] => { results := [.lit (.bool true)], args := [d1, d2, d3] }
  | _ => none }
def colourLaterRow : OpenClaim := { program := "ytbafhmlmibjgpaa", sum := "9623f75ec67983e79b1ea7c63428481d5373d193fd6e22dc2ed08960698c677d", func := "innkeeper/innkeeperlaw18.ColourLater", spec := "colourLater", unfollowed := true, recurses := true, apart := false }
def ColourLaterSaid : Prop := colourLaterRow.holds Try.pinned (OpenSpec.ofChange colourLaterSpec)

/-- ITS FALSE NEIGHBOUR: 'it returns false'. Refute it at one input. -/
def colourLaterWrong : ChangeSpec := { name := "colourLater", fn := fun _ => fun
  | [d1, d2, d3] => { results := [.lit (.bool false)], args := [d1, d2, d3] }
  | _ => none }
def ColourLaterWrongFalsely : Prop := colourLaterRow.holds Try.pinned (OpenSpec.ofChange colourLaterWrong)

/-- 'innkeeperlaw18.ColourOrder': WHATEVER THE INPUT: true; the input reads as it did. -/
def colourOrderSpec : ChangeSpec := { name := "colourOrder", fn := fun _ => fun
  | [d] => { results := [.lit (.bool true)], args := [d] }
  | _ => none }
def colourOrderRow : OpenClaim := { program := "ytbafhmlmibjgpaa", sum := "9623f75ec67983e79b1ea7c63428481d5373d193fd6e22dc2ed08960698c677d", func := "innkeeper/innkeeperlaw18.ColourOrder", spec := "colourOrder", unfollowed := true, recurses := true, apart := false }
def ColourOrderSaid : Prop := colourOrderRow.holds Try.pinned (OpenSpec.ofChange colourOrderSpec)

/-- ITS FALSE NEIGHBOUR: 'it returns false'. Refute it at one input. -/
def colourOrderWrong : ChangeSpec := { name := "colourOrder", fn := fun _ => fun
  | [d] => { results := [.lit (.bool false)], args := [d] }
  | _ => none }
def ColourOrderWrongFalsely : Prop := colourOrderRow.holds Try.pinned (OpenSpec.ofChange colourOrderWrong)

/- THE SECOND FORM. 'bulk': how many values and letters a reading holds, each counted each time it is reached (what is shared counts as often as it is met; a slice's spare places count too). A statement '..UptoSaid' is the law's where the arguments, and the package variables that the reading takes, are together of bulk at most 1048576: NARROWER than '..Said'. Prove '..Said' where nothing that the law and all that it calls make is longer than what came in: it says more and counts as full. Else prove '..UptoSaid'. A law counts once. -/
mutual
def uptoBulk {H : Type} : DataW H → Nat
  | .lit (.string bytes) => bytes.length + 1
  | .lit _ => 1
  | .nil => 1
  | .ptr d => uptoBulk d + 1
  | .slice elems spare => uptoBulkAll elems + uptoBulkAll spare + 1
  | .agg parts => uptoBulkAll parts + 1
  | .iface _ d => uptoBulk d + 1
  | .map entries => uptoBulkEntries entries + 1
  | .held _ => 1
def uptoBulkAll {H : Type} : List (DataW H) → Nat
  | [] => 0
  | d :: r => uptoBulk d + uptoBulkAll r
def uptoBulkEntries {H : Type} : List (Lit × DataW H) → Nat
  | [] => 0
  | x :: r => uptoBulkEntry x + uptoBulkEntries r
def uptoBulkEntry {H : Type} : Lit × DataW H → Nat
  | (.string bytes, d) => bytes.length + uptoBulk d + 1
  | (_, d) => uptoBulk d + 1
 end
def uptoSmall : (H : Type) → List (DataW H) → Bool := fun _ ds => decide (uptoBulkAll ds ≤ 1048576)
def OpenSpec.upto (s : _root_.Go.ChangeSpec) : _root_.Go.OpenSpec := { _root_.Go.OpenSpec.ofChange s with cond := some uptoSmall }

/-- 'innkeeperlaw18.ColourMatchesReference', WHERE WHAT IT READS IS OF BULK AT MOST 1048576: true; the input reads as it did. -/
def colourMatchesReferenceUptoRow : OpenClaim := { program := "ytbafhmlmibjgpaa", sum := "9623f75ec67983e79b1ea7c63428481d5373d193fd6e22dc2ed08960698c677d", func := "innkeeper/innkeeperlaw18.ColourMatchesReference", spec := "colourMatchesReference", unfollowed := true, recurses := true, apart := false, narrowed := true }
def ColourMatchesReferenceUptoSaid : Prop := colourMatchesReferenceUptoRow.holds Try.pinned (OpenSpec.upto colourMatchesReferenceSpec)

/-- 'innkeeperlaw18.ColourApart', WHERE WHAT IT READS IS OF BULK AT MOST 1048576: true; the input reads as it did. -/
def colourApartUptoRow : OpenClaim := { program := "ytbafhmlmibjgpaa", sum := "9623f75ec67983e79b1ea7c63428481d5373d193fd6e22dc2ed08960698c677d", func := "innkeeper/innkeeperlaw18.ColourApart", spec := "colourApart", unfollowed := true, recurses := true, apart := false, narrowed := true }
def ColourApartUptoSaid : Prop := colourApartUptoRow.holds Try.pinned (OpenSpec.upto colourApartSpec)

/-- 'innkeeperlaw18.ColourLeast', WHERE WHAT IT READS IS OF BULK AT MOST 1048576: true; the input reads as it did. -/
def colourLeastUptoRow : OpenClaim := { program := "ytbafhmlmibjgpaa", sum := "9623f75ec67983e79b1ea7c63428481d5373d193fd6e22dc2ed08960698c677d", func := "innkeeper/innkeeperlaw18.ColourLeast", spec := "colourLeast", unfollowed := true, recurses := true, apart := false, narrowed := true }
def ColourLeastUptoSaid : Prop := colourLeastUptoRow.holds Try.pinned (OpenSpec.upto colourLeastSpec)

/-- 'innkeeperlaw18.ColourCliques', WHERE WHAT IT READS IS OF BULK AT MOST 1048576: true; the input reads as it did. -/
def colourCliquesUptoRow : OpenClaim := { program := "ytbafhmlmibjgpaa", sum := "9623f75ec67983e79b1ea7c63428481d5373d193fd6e22dc2ed08960698c677d", func := "innkeeper/innkeeperlaw18.ColourCliques", spec := "colourCliques", unfollowed := true, recurses := true, apart := false, narrowed := true }
def ColourCliquesUptoSaid : Prop := colourCliquesUptoRow.holds Try.pinned (OpenSpec.upto colourCliquesSpec)

/-- 'innkeeperlaw18.ColourFits', WHERE WHAT IT READS IS OF BULK AT MOST 1048576: true; the input reads as it did. -/
def colourFitsUptoRow : OpenClaim := { program := "ytbafhmlmibjgpaa", sum := "9623f75ec67983e79b1ea7c63428481d5373d193fd6e22dc2ed08960698c677d", func := "innkeeper/innkeeperlaw18.ColourFits", spec := "colourFits", unfollowed := true, recurses := true, apart := false, narrowed := true }
def ColourFitsUptoSaid : Prop := colourFitsUptoRow.holds Try.pinned (OpenSpec.upto colourFitsSpec)

/-- 'innkeeperlaw18.ColourLater', WHERE WHAT IT READS IS OF BULK AT MOST 1048576: true; the input reads as it did. -/
def colourLaterUptoRow : OpenClaim := { program := "ytbafhmlmibjgpaa", sum := "9623f75ec67983e79b1ea7c63428481d5373d193fd6e22dc2ed08960698c677d", func := "innkeeper/innkeeperlaw18.ColourLater", spec := "colourLater", unfollowed := true, recurses := true, apart := false, narrowed := true }
def ColourLaterUptoSaid : Prop := colourLaterUptoRow.holds Try.pinned (OpenSpec.upto colourLaterSpec)

/-- 'innkeeperlaw18.ColourOrder', WHERE WHAT IT READS IS OF BULK AT MOST 1048576: true; the input reads as it did. -/
def colourOrderUptoRow : OpenClaim := { program := "ytbafhmlmibjgpaa", sum := "9623f75ec67983e79b1ea7c63428481d5373d193fd6e22dc2ed08960698c677d", func := "innkeeper/innkeeperlaw18.ColourOrder", spec := "colourOrder", unfollowed := true, recurses := true, apart := false, narrowed := true }
def ColourOrderUptoSaid : Prop := colourOrderUptoRow.holds Try.pinned (OpenSpec.upto colourOrderSpec)

end Rows
end Go.Proofs.Ytbafhmlmibjgpaa
