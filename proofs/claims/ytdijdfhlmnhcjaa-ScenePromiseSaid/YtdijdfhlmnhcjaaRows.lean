/-
  No cell of these rows narrows 'for every input' (looked for: loops, veiled, ifaces, maps, wideKeys, modest, calm, conditions, laid).
  DERIVED. THE GIVEN ROWS OF THIS SEAT. 6 by the template 'for every input the law returns true; each argument reads behind the call as it read before'; 0 by the template 'total and deterministic' (their statements: YtdijdfhlmnhcjaaTotals.lean).
  GIVEN WITH THE SEED: the statements are not yours to turn. If you find one false, say at which input.
  Laid BY PROGRAM, IN A SANDBOX (cutbox-rows.mjs): the forced cells as the released guide's own fill.sh prints them over the translation a3fe13e0086dfae5… (all of the seat's roots in one cut). By AI agents, Wed Nov 11 2026. No macro, syntax, notation, axiom, sorry.
-/
import Derived.Test.YtdijdfhlmnhcjaaChecked
import GoSem.Claim
import GoSem.ClaimJoined
import GoSem.ClaimMapViews
import Derived.JoinedTies
import Derived.KernelRfl
namespace Go.Proofs.Ytdijdfhlmnhcjaa
/- THE CELL 'sum', in the pinned program and in every row, IS THE sha256 OF THE DUMP (.gsa) THAT YtdijdfhlmnhcjaaProg.lean LOADS. Nothing in Lean hashes anything: it is a label: what it is worth is what the hold of that sum in a sandbox is worth. -/
noncomputable def Try.pinned : Pinned := { name := "ytdijdfhlmnhcjaa", sum := "a3fe13e0086dfae5c8c0d907611c6b190cd1d12ffed3f0c14b8f8c8a1cfaf572", checked := Try.checked }
namespace Rows
def none {H : Type} : Left H := { results := [], args := [] }

/-- 'innkeeperlaw25.SceneMatchesReference': WHATEVER THE INPUT: true; the input reads as it did. -/
def sceneMatchesReferenceSpec : ChangeSpec := { name := "sceneMatchesReference", fn := fun _ => fun
  | [d1, d2, d3, d4, d5] => { results := [.lit (.bool true)], args := [d1, d2, d3, d4, d5] }
  | _ => none }
def sceneMatchesReferenceRow : OpenClaim := { program := "ytdijdfhlmnhcjaa", sum := "a3fe13e0086dfae5c8c0d907611c6b190cd1d12ffed3f0c14b8f8c8a1cfaf572", func := "innkeeper/innkeeperlaw25.SceneMatchesReference", spec := "sceneMatchesReference", unfollowed := true, recurses := true, apart := false }
def SceneMatchesReferenceSaid : Prop := sceneMatchesReferenceRow.holds Try.pinned (OpenSpec.ofChange sceneMatchesReferenceSpec)

/-- ITS FALSE NEIGHBOUR: 'it returns false'. Refute it at one input. -/
def sceneMatchesReferenceWrong : ChangeSpec := { name := "sceneMatchesReference", fn := fun _ => fun
  | [d1, d2, d3, d4, d5] => { results := [.lit (.bool false)], args := [d1, d2, d3, d4, d5] }
  | _ => none }
def SceneMatchesReferenceWrongFalsely : Prop := sceneMatchesReferenceRow.holds Try.pinned (OpenSpec.ofChange sceneMatchesReferenceWrong)

/-- 'innkeeperlaw25.SceneSales': WHATEVER THE INPUT: true; the input reads as it did. -/
def sceneSalesSpec : ChangeSpec := { name := "sceneSales", fn := fun _ => fun
  | [d1, d2, d3] => { results := [.lit (.bool true)], args := [d1, d2, d3] }
  | _ => none }
def sceneSalesRow : OpenClaim := { program := "ytdijdfhlmnhcjaa", sum := "a3fe13e0086dfae5c8c0d907611c6b190cd1d12ffed3f0c14b8f8c8a1cfaf572", func := "innkeeper/innkeeperlaw25.SceneSales", spec := "sceneSales", unfollowed := true, recurses := true, apart := false }
def SceneSalesSaid : Prop := sceneSalesRow.holds Try.pinned (OpenSpec.ofChange sceneSalesSpec)

/-- ITS FALSE NEIGHBOUR: 'it returns false'. Refute it at one input. -/
def sceneSalesWrong : ChangeSpec := { name := "sceneSales", fn := fun _ => fun
  | [d1, d2, d3] => { results := [.lit (.bool false)], args := [d1, d2, d3] }
  | _ => none }
def SceneSalesWrongFalsely : Prop := sceneSalesRow.holds Try.pinned (OpenSpec.ofChange sceneSalesWrong)

/-- 'innkeeperlaw25.SceneAway': WHATEVER THE INPUT: true; the input reads as it did. -/
def sceneAwaySpec : ChangeSpec := { name := "sceneAway", fn := fun _ => fun
  | [d1, d2, d3] => { results := [.lit (.bool true)], args := [d1, d2, d3] }
  | _ => none }
def sceneAwayRow : OpenClaim := { program := "ytdijdfhlmnhcjaa", sum := "a3fe13e0086dfae5c8c0d907611c6b190cd1d12ffed3f0c14b8f8c8a1cfaf572", func := "innkeeper/innkeeperlaw25.SceneAway", spec := "sceneAway", unfollowed := true, recurses := true, apart := false }
def SceneAwaySaid : Prop := sceneAwayRow.holds Try.pinned (OpenSpec.ofChange sceneAwaySpec)

/-- ITS FALSE NEIGHBOUR: 'it returns false'. Refute it at one input. -/
def sceneAwayWrong : ChangeSpec := { name := "sceneAway", fn := fun _ => fun
  | [d1, d2, d3] => { results := [.lit (.bool false)], args := [d1, d2, d3] }
  | _ => none }
def SceneAwayWrongFalsely : Prop := sceneAwayRow.holds Try.pinned (OpenSpec.ofChange sceneAwayWrong)

/-- 'innkeeperlaw25.SceneFurther': WHATEVER THE INPUT: true; the input reads as it did. -/
def sceneFurtherSpec : ChangeSpec := { name := "sceneFurther", fn := fun _ => fun
  | [d1, d2, d3] => { results := [.lit (.bool true)], args := [d1, d2, d3] }
  | _ => none }
def sceneFurtherRow : OpenClaim := { program := "ytdijdfhlmnhcjaa", sum := "a3fe13e0086dfae5c8c0d907611c6b190cd1d12ffed3f0c14b8f8c8a1cfaf572", func := "innkeeper/innkeeperlaw25.SceneFurther", spec := "sceneFurther", unfollowed := true, recurses := true, apart := false }
def SceneFurtherSaid : Prop := sceneFurtherRow.holds Try.pinned (OpenSpec.ofChange sceneFurtherSpec)

/-- ITS FALSE NEIGHBOUR: 'it returns false'. Refute it at one input. -/
def sceneFurtherWrong : ChangeSpec := { name := "sceneFurther", fn := fun _ => fun
  | [d1, d2, d3] => { results := [.lit (.bool false)], args := [d1, d2, d3] }
  | _ => none }
def SceneFurtherWrongFalsely : Prop := sceneFurtherRow.holds Try.pinned (OpenSpec.ofChange sceneFurtherWrong)

/-- 'innkeeperlaw25.SceneWorst': WHATEVER THE INPUT: true; the input reads as it did. -/
def sceneWorstSpec : ChangeSpec := { name := "sceneWorst", fn := fun _ => fun
  | [d1, d2, d3] => { results := [.lit (.bool true)], args := [d1, d2, d3] }
  | _ => none }
def sceneWorstRow : OpenClaim := { program := "ytdijdfhlmnhcjaa", sum := "a3fe13e0086dfae5c8c0d907611c6b190cd1d12ffed3f0c14b8f8c8a1cfaf572", func := "innkeeper/innkeeperlaw25.SceneWorst", spec := "sceneWorst", unfollowed := true, recurses := true, apart := false }
def SceneWorstSaid : Prop := sceneWorstRow.holds Try.pinned (OpenSpec.ofChange sceneWorstSpec)

/-- ITS FALSE NEIGHBOUR: 'it returns false'. Refute it at one input. -/
def sceneWorstWrong : ChangeSpec := { name := "sceneWorst", fn := fun _ => fun
  | [d1, d2, d3] => { results := [.lit (.bool false)], args := [d1, d2, d3] }
  | _ => none }
def SceneWorstWrongFalsely : Prop := sceneWorstRow.holds Try.pinned (OpenSpec.ofChange sceneWorstWrong)

/-- 'innkeeperlaw25.ScenePromise': WHATEVER THE INPUT: true; the input reads as it did. -/
def scenePromiseSpec : ChangeSpec := { name := "scenePromise", fn := fun _ => fun
  | [d1, d2, d3, d4] => { results := [.lit (.bool true)], args := [d1, d2, d3, d4] }
  | _ => none }
def scenePromiseRow : OpenClaim := { program := "ytdijdfhlmnhcjaa", sum := "a3fe13e0086dfae5c8c0d907611c6b190cd1d12ffed3f0c14b8f8c8a1cfaf572", func := "innkeeper/innkeeperlaw25.ScenePromise", spec := "scenePromise", unfollowed := true, recurses := true, apart := false }
def ScenePromiseSaid : Prop := scenePromiseRow.holds Try.pinned (OpenSpec.ofChange scenePromiseSpec)

/-- ITS FALSE NEIGHBOUR: 'it returns false'. Refute it at one input. -/
def scenePromiseWrong : ChangeSpec := { name := "scenePromise", fn := fun _ => fun
  | [d1, d2, d3, d4] => { results := [.lit (.bool false)], args := [d1, d2, d3, d4] }
  | _ => none }
def ScenePromiseWrongFalsely : Prop := scenePromiseRow.holds Try.pinned (OpenSpec.ofChange scenePromiseWrong)

/- THE SECOND FORM. 'bulk': how many values and letters a reading holds, each counted each time it is reached (what is shared counts as often as it is met; a slice's spare places count too). A statement '..UptoSaid' is the law's where the arguments, and the package variables that the reading takes, are together of bulk at most 1048576: NARROWER than '..Said'. Prove '..Said' where nothing that the law and all that it calls make is longer than what came in: it says more and counts as full. Else prove '..UptoSaid'. A law counts once. -/
mutual
def uptoBulk {H : Type} : DataW H → Nat
  | .lit (.string bytes) => bytes.length + 1
  | .lit _ => 1
  | .nil => 1
  | .ptr d => uptoBulk d + 1
  | .slice elems spare => uptoBulkAll elems + uptoBulkAll spare + 1
  | .agg parts => uptoBulkAll parts + 1
  | .iface _ d => uptoBulk d + 1
  | .map entries => uptoBulkEntries entries + 1
  | .held _ => 1
def uptoBulkAll {H : Type} : List (DataW H) → Nat
  | [] => 0
  | d :: r => uptoBulk d + uptoBulkAll r
def uptoBulkEntries {H : Type} : List (Lit × DataW H) → Nat
  | [] => 0
  | x :: r => uptoBulkEntry x + uptoBulkEntries r
def uptoBulkEntry {H : Type} : Lit × DataW H → Nat
  | (.string bytes, d) => bytes.length + uptoBulk d + 1
  | (_, d) => uptoBulk d + 1
 end
def uptoSmall : (H : Type) → List (DataW H) → Bool := fun _ ds => decide (uptoBulkAll ds ≤ 1048576)
def OpenSpec.upto (s : _root_.Go.ChangeSpec) : _root_.Go.OpenSpec := { _root_.Go.OpenSpec.ofChange s with cond := some uptoSmall }

/-- 'innkeeperlaw25.SceneMatchesReference', WHERE WHAT IT READS IS OF BULK AT MOST 1048576: true; the input reads as it did. -/
def sceneMatchesReferenceUptoRow : OpenClaim := { program := "ytdijdfhlmnhcjaa", sum := "a3fe13e0086dfae5c8c0d907611c6b190cd1d12ffed3f0c14b8f8c8a1cfaf572", func := "innkeeper/innkeeperlaw25.SceneMatchesReference", spec := "sceneMatchesReference", unfollowed := true, recurses := true, apart := false, narrowed := true }
def SceneMatchesReferenceUptoSaid : Prop := sceneMatchesReferenceUptoRow.holds Try.pinned (OpenSpec.upto sceneMatchesReferenceSpec)

/-- 'innkeeperlaw25.SceneSales', WHERE WHAT IT READS IS OF BULK AT MOST 1048576: true; the input reads as it did. -/
def sceneSalesUptoRow : OpenClaim := { program := "ytdijdfhlmnhcjaa", sum := "a3fe13e0086dfae5c8c0d907611c6b190cd1d12ffed3f0c14b8f8c8a1cfaf572", func := "innkeeper/innkeeperlaw25.SceneSales", spec := "sceneSales", unfollowed := true, recurses := true, apart := false, narrowed := true }
def SceneSalesUptoSaid : Prop := sceneSalesUptoRow.holds Try.pinned (OpenSpec.upto sceneSalesSpec)

/-- 'innkeeperlaw25.SceneAway', WHERE WHAT IT READS IS OF BULK AT MOST 1048576: true; the input reads as it did. -/
def sceneAwayUptoRow : OpenClaim := { program := "ytdijdfhlmnhcjaa", sum := "a3fe13e0086dfae5c8c0d907611c6b190cd1d12ffed3f0c14b8f8c8a1cfaf572", func := "innkeeper/innkeeperlaw25.SceneAway", spec := "sceneAway", unfollowed := true, recurses := true, apart := false, narrowed := true }
def SceneAwayUptoSaid : Prop := sceneAwayUptoRow.holds Try.pinned (OpenSpec.upto sceneAwaySpec)

/-- 'innkeeperlaw25.SceneFurther', WHERE WHAT IT READS IS OF BULK AT MOST 1048576: true; the input reads as it did. -/
def sceneFurtherUptoRow : OpenClaim := { program := "ytdijdfhlmnhcjaa", sum := "a3fe13e0086dfae5c8c0d907611c6b190cd1d12ffed3f0c14b8f8c8a1cfaf572", func := "innkeeper/innkeeperlaw25.SceneFurther", spec := "sceneFurther", unfollowed := true, recurses := true, apart := false, narrowed := true }
def SceneFurtherUptoSaid : Prop := sceneFurtherUptoRow.holds Try.pinned (OpenSpec.upto sceneFurtherSpec)

/-- 'innkeeperlaw25.SceneWorst', WHERE WHAT IT READS IS OF BULK AT MOST 1048576: true; the input reads as it did. -/
def sceneWorstUptoRow : OpenClaim := { program := "ytdijdfhlmnhcjaa", sum := "a3fe13e0086dfae5c8c0d907611c6b190cd1d12ffed3f0c14b8f8c8a1cfaf572", func := "innkeeper/innkeeperlaw25.SceneWorst", spec := "sceneWorst", unfollowed := true, recurses := true, apart := false, narrowed := true }
def SceneWorstUptoSaid : Prop := sceneWorstUptoRow.holds Try.pinned (OpenSpec.upto sceneWorstSpec)

/-- 'innkeeperlaw25.ScenePromise', WHERE WHAT IT READS IS OF BULK AT MOST 1048576: true; the input reads as it did. -/
def scenePromiseUptoRow : OpenClaim := { program := "ytdijdfhlmnhcjaa", sum := "a3fe13e0086dfae5c8c0d907611c6b190cd1d12ffed3f0c14b8f8c8a1cfaf572", func := "innkeeper/innkeeperlaw25.ScenePromise", spec := "scenePromise", unfollowed := true, recurses := true, apart := false, narrowed := true }
def ScenePromiseUptoSaid : Prop := scenePromiseUptoRow.holds Try.pinned (OpenSpec.upto scenePromiseSpec)

end Rows
end Go.Proofs.Ytdijdfhlmnhcjaa
