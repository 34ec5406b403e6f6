/-
  NARROWER THAN 'FOR EVERY INPUT', by the rows' own cells (each row's printed sentence says how): TypesMatchesReference: loops · TypesParts: loops · TypesReplaced: loops · TypesRates: loops · TypesTogether: loops · RateApplies: loops · RateWinner: loops · RateOrder: loops · RateSums: loops.
  DERIVED. THE GIVEN ROWS OF THIS SEAT. 10 by the template 'for every input the law returns true; each argument reads behind the call as it read before'; 0 by the template 'total and deterministic' (their statements: YtcmodmchnokmgaaTotals.lean).
  GIVEN WITH THE SEED: the statements are not yours to turn. If you find one false, say at which input.
  Laid BY PROGRAM, IN A SANDBOX (cutbox-rows.mjs): the forced cells as the released guide's own fill.sh prints them over the translation 26ffa14b82727ab3… (all of the seat's roots in one cut). By AI agents, Wed Nov 11 2026. No macro, syntax, notation, axiom, sorry.
-/
import Derived.Test.YtcmodmchnokmgaaChecked
import GoSem.Claim
import GoSem.ClaimJoined
import GoSem.ClaimMapViews
import Derived.JoinedTies
import Derived.KernelRfl
namespace Go.Proofs.Ytcmodmchnokmgaa
/- THE CELL 'sum', in the pinned program and in every row, IS THE sha256 OF THE DUMP (.gsa) THAT YtcmodmchnokmgaaProg.lean LOADS. Nothing in Lean hashes anything: it is a label: what it is worth is what the hold of that sum in a sandbox is worth. -/
noncomputable def Try.pinned : Pinned := { name := "ytcmodmchnokmgaa", sum := "26ffa14b82727ab3483f5986d5920eb425d175a0263560dc7b97e8f40c755236", checked := Try.checked }
namespace Rows
def none {H : Type} : Left H := { results := [], args := [] }

/-- 'innkeeperlaw10.TypesMatchesReference': WHATEVER THE INPUT: true; the input reads as it did. -/
def typesMatchesReferenceSpec : ChangeSpec := { name := "typesMatchesReference", fn := fun _ => fun
  | [d1, d2, d3] => { results := [.lit (.bool true)], args := [d1, d2, d3] }
  | _ => none }
def typesMatchesReferenceRow : OpenClaim := { program := "ytcmodmchnokmgaa", sum := "26ffa14b82727ab3483f5986d5920eb425d175a0263560dc7b97e8f40c755236", func := "innkeeper/innkeeperlaw10.TypesMatchesReference", spec := "typesMatchesReference", unfollowed := true, recurses := true, loops := true, plainKeys := false, apart := false }
def TypesMatchesReferenceSaid : Prop := typesMatchesReferenceRow.holds Try.pinned (OpenSpec.ofChange typesMatchesReferenceSpec)

/-- ITS FALSE NEIGHBOUR: 'it returns false'. Refute it at one input. -/
def typesMatchesReferenceWrong : ChangeSpec := { name := "typesMatchesReference", fn := fun _ => fun
  | [d1, d2, d3] => { results := [.lit (.bool false)], args := [d1, d2, d3] }
  | _ => none }
def TypesMatchesReferenceWrongFalsely : Prop := typesMatchesReferenceRow.holds Try.pinned (OpenSpec.ofChange typesMatchesReferenceWrong)

/-- 'innkeeperlaw10.TypesParts': WHATEVER THE INPUT: true; the input reads as it did. -/
def typesPartsSpec : ChangeSpec := { name := "typesParts", fn := fun _ => fun
  | [d1, d2] => { results := [.lit (.bool true)], args := [d1, d2] }
  | _ => none }
def typesPartsRow : OpenClaim := { program := "ytcmodmchnokmgaa", sum := "26ffa14b82727ab3483f5986d5920eb425d175a0263560dc7b97e8f40c755236", func := "innkeeper/innkeeperlaw10.TypesParts", spec := "typesParts", unfollowed := true, recurses := true, loops := true, plainKeys := false, apart := false }
def TypesPartsSaid : Prop := typesPartsRow.holds Try.pinned (OpenSpec.ofChange typesPartsSpec)

/-- ITS FALSE NEIGHBOUR: 'it returns false'. Refute it at one input. -/
def typesPartsWrong : ChangeSpec := { name := "typesParts", fn := fun _ => fun
  | [d1, d2] => { results := [.lit (.bool false)], args := [d1, d2] }
  | _ => none }
def TypesPartsWrongFalsely : Prop := typesPartsRow.holds Try.pinned (OpenSpec.ofChange typesPartsWrong)

/-- 'innkeeperlaw10.TypesReplaced': WHATEVER THE INPUT: true; the input reads as it did. -/
def typesReplacedSpec : ChangeSpec := { name := "typesReplaced", fn := fun _ => fun
  | [d1, d2, d3] => { results := [.lit (.bool true)], args := [d1, d2, d3] }
  | _ => none }
def typesReplacedRow : OpenClaim := { program := "ytcmodmchnokmgaa", sum := "26ffa14b82727ab3483f5986d5920eb425d175a0263560dc7b97e8f40c755236", func := "innkeeper/innkeeperlaw10.TypesReplaced", spec := "typesReplaced", unfollowed := true, recurses := true, loops := true, plainKeys := false, apart := false }
def TypesReplacedSaid : Prop := typesReplacedRow.holds Try.pinned (OpenSpec.ofChange typesReplacedSpec)

/-- ITS FALSE NEIGHBOUR: 'it returns false'. Refute it at one input. -/
def typesReplacedWrong : ChangeSpec := { name := "typesReplaced", fn := fun _ => fun
  | [d1, d2, d3] => { results := [.lit (.bool false)], args := [d1, d2, d3] }
  | _ => none }
def TypesReplacedWrongFalsely : Prop := typesReplacedRow.holds Try.pinned (OpenSpec.ofChange typesReplacedWrong)

/-- 'innkeeperlaw10.TypesRates': WHATEVER THE INPUT: true; the input reads as it did. -/
def typesRatesSpec : ChangeSpec := { name := "typesRates", fn := fun _ => fun
  | [d1, d2] => { results := [.lit (.bool true)], args := [d1, d2] }
  | _ => none }
def typesRatesRow : OpenClaim := { program := "ytcmodmchnokmgaa", sum := "26ffa14b82727ab3483f5986d5920eb425d175a0263560dc7b97e8f40c755236", func := "innkeeper/innkeeperlaw10.TypesRates", spec := "typesRates", unfollowed := true, recurses := true, loops := true, plainKeys := false, apart := false }
def TypesRatesSaid : Prop := typesRatesRow.holds Try.pinned (OpenSpec.ofChange typesRatesSpec)

/-- ITS FALSE NEIGHBOUR: 'it returns false'. Refute it at one input. -/
def typesRatesWrong : ChangeSpec := { name := "typesRates", fn := fun _ => fun
  | [d1, d2] => { results := [.lit (.bool false)], args := [d1, d2] }
  | _ => none }
def TypesRatesWrongFalsely : Prop := typesRatesRow.holds Try.pinned (OpenSpec.ofChange typesRatesWrong)

/-- 'innkeeperlaw10.TypesTogether': WHATEVER THE INPUT: true; the input reads as it did. -/
def typesTogetherSpec : ChangeSpec := { name := "typesTogether", fn := fun _ => fun
  | [d1, d2] => { results := [.lit (.bool true)], args := [d1, d2] }
  | _ => none }
def typesTogetherRow : OpenClaim := { program := "ytcmodmchnokmgaa", sum := "26ffa14b82727ab3483f5986d5920eb425d175a0263560dc7b97e8f40c755236", func := "innkeeper/innkeeperlaw10.TypesTogether", spec := "typesTogether", unfollowed := true, recurses := true, loops := true, plainKeys := false, apart := false }
def TypesTogetherSaid : Prop := typesTogetherRow.holds Try.pinned (OpenSpec.ofChange typesTogetherSpec)

/-- ITS FALSE NEIGHBOUR: 'it returns false'. Refute it at one input. -/
def typesTogetherWrong : ChangeSpec := { name := "typesTogether", fn := fun _ => fun
  | [d1, d2] => { results := [.lit (.bool false)], args := [d1, d2] }
  | _ => none }
def TypesTogetherWrongFalsely : Prop := typesTogetherRow.holds Try.pinned (OpenSpec.ofChange typesTogetherWrong)

/-- 'innkeeperlaw11.RateApplies': WHATEVER THE INPUT: true; the input reads as it did. -/
def rateAppliesSpec : ChangeSpec := { name := "rateApplies", fn := fun _ => fun
  | [d1, d2, d3, d4] => { results := [.lit (.bool true)], args := [d1, d2, d3, d4] }
  | _ => none }
def rateAppliesRow : OpenClaim := { program := "ytcmodmchnokmgaa", sum := "26ffa14b82727ab3483f5986d5920eb425d175a0263560dc7b97e8f40c755236", func := "innkeeper/innkeeperlaw11.RateApplies", spec := "rateApplies", unfollowed := true, recurses := true, loops := true, plainKeys := false, apart := false }
def RateAppliesSaid : Prop := rateAppliesRow.holds Try.pinned (OpenSpec.ofChange rateAppliesSpec)

/-- ITS FALSE NEIGHBOUR: 'it returns false'. Refute it at one input. -/
def rateAppliesWrong : ChangeSpec := { name := "rateApplies", fn := fun _ => fun
  | [d1, d2, d3, d4] => { results := [.lit (.bool false)], args := [d1, d2, d3, d4] }
  | _ => none }
def RateAppliesWrongFalsely : Prop := rateAppliesRow.holds Try.pinned (OpenSpec.ofChange rateAppliesWrong)

/-- 'innkeeperlaw11.RateWinner': WHATEVER THE INPUT: true; the input reads as it did. -/
def rateWinnerSpec : ChangeSpec := { name := "rateWinner", fn := fun _ => fun
  | [d1, d2, d3, d4] => { results := [.lit (.bool true)], args := [d1, d2, d3, d4] }
  | _ => none }
def rateWinnerRow : OpenClaim := { program := "ytcmodmchnokmgaa", sum := "26ffa14b82727ab3483f5986d5920eb425d175a0263560dc7b97e8f40c755236", func := "innkeeper/innkeeperlaw11.RateWinner", spec := "rateWinner", unfollowed := true, recurses := true, loops := true, plainKeys := false, apart := false }
def RateWinnerSaid : Prop := rateWinnerRow.holds Try.pinned (OpenSpec.ofChange rateWinnerSpec)

/-- ITS FALSE NEIGHBOUR: 'it returns false'. Refute it at one input. -/
def rateWinnerWrong : ChangeSpec := { name := "rateWinner", fn := fun _ => fun
  | [d1, d2, d3, d4] => { results := [.lit (.bool false)], args := [d1, d2, d3, d4] }
  | _ => none }
def RateWinnerWrongFalsely : Prop := rateWinnerRow.holds Try.pinned (OpenSpec.ofChange rateWinnerWrong)

/-- 'innkeeperlaw11.RateOrder': WHATEVER THE INPUT: true; the input reads as it did. -/
def rateOrderSpec : ChangeSpec := { name := "rateOrder", fn := fun _ => fun
  | [d1, d2] => { results := [.lit (.bool true)], args := [d1, d2] }
  | _ => none }
def rateOrderRow : OpenClaim := { program := "ytcmodmchnokmgaa", sum := "26ffa14b82727ab3483f5986d5920eb425d175a0263560dc7b97e8f40c755236", func := "innkeeper/innkeeperlaw11.RateOrder", spec := "rateOrder", unfollowed := true, recurses := true, loops := true, plainKeys := false, apart := false }
def RateOrderSaid : Prop := rateOrderRow.holds Try.pinned (OpenSpec.ofChange rateOrderSpec)

/-- ITS FALSE NEIGHBOUR: 'it returns false'. Refute it at one input. -/
def rateOrderWrong : ChangeSpec := { name := "rateOrder", fn := fun _ => fun
  | [d1, d2] => { results := [.lit (.bool false)], args := [d1, d2] }
  | _ => none }
def RateOrderWrongFalsely : Prop := rateOrderRow.holds Try.pinned (OpenSpec.ofChange rateOrderWrong)

/-- 'innkeeperlaw11.RateSums': WHATEVER THE INPUT: true; the input reads as it did. -/
def rateSumsSpec : ChangeSpec := { name := "rateSums", fn := fun _ => fun
  | [d1, d2] => { results := [.lit (.bool true)], args := [d1, d2] }
  | _ => none }
def rateSumsRow : OpenClaim := { program := "ytcmodmchnokmgaa", sum := "26ffa14b82727ab3483f5986d5920eb425d175a0263560dc7b97e8f40c755236", func := "innkeeper/innkeeperlaw11.RateSums", spec := "rateSums", unfollowed := true, recurses := true, loops := true, plainKeys := false, apart := false }
def RateSumsSaid : Prop := rateSumsRow.holds Try.pinned (OpenSpec.ofChange rateSumsSpec)

/-- ITS FALSE NEIGHBOUR: 'it returns false'. Refute it at one input. -/
def rateSumsWrong : ChangeSpec := { name := "rateSums", fn := fun _ => fun
  | [d1, d2] => { results := [.lit (.bool false)], args := [d1, d2] }
  | _ => none }
def RateSumsWrongFalsely : Prop := rateSumsRow.holds Try.pinned (OpenSpec.ofChange rateSumsWrong)

/-- 'innkeeperlaw14.SplitFlat': WHATEVER THE INPUT: true; the input reads as it did. -/
def splitFlatSpec : ChangeSpec := { name := "splitFlat", fn := fun _ => fun
  | [d1, d2] => { results := [.lit (.bool true)], args := [d1, d2] }
  | _ => none }
def splitFlatRow : OpenClaim := { program := "ytcmodmchnokmgaa", sum := "26ffa14b82727ab3483f5986d5920eb425d175a0263560dc7b97e8f40c755236", func := "innkeeper/innkeeperlaw14.SplitFlat", spec := "splitFlat", unfollowed := true, recurses := true, plainKeys := false, apart := false }
def SplitFlatSaid : Prop := splitFlatRow.holds Try.pinned (OpenSpec.ofChange splitFlatSpec)

/-- ITS FALSE NEIGHBOUR: 'it returns false'. Refute it at one input. -/
def splitFlatWrong : ChangeSpec := { name := "splitFlat", fn := fun _ => fun
  | [d1, d2] => { results := [.lit (.bool false)], args := [d1, d2] }
  | _ => none }
def SplitFlatWrongFalsely : Prop := splitFlatRow.holds Try.pinned (OpenSpec.ofChange splitFlatWrong)

/- THE SECOND FORM. 'bulk': how many values and letters a reading holds, each counted each time it is reached (what is shared counts as often as it is met; a slice's spare places count too). A statement '..UptoSaid' is the law's where the arguments, and the package variables that the reading takes, are together of bulk at most 1048576: NARROWER than '..Said'. Prove '..Said' where nothing that the law and all that it calls make is longer than what came in: it says more and counts as full. Else prove '..UptoSaid'. A law counts once. -/
mutual
def uptoBulk {H : Type} : DataW H → Nat
  | .lit (.string bytes) => bytes.length + 1
  | .lit _ => 1
  | .nil => 1
  | .ptr d => uptoBulk d + 1
  | .slice elems spare => uptoBulkAll elems + uptoBulkAll spare + 1
  | .agg parts => uptoBulkAll parts + 1
  | .iface _ d => uptoBulk d + 1
  | .map entries => uptoBulkEntries entries + 1
  | .held _ => 1
def uptoBulkAll {H : Type} : List (DataW H) → Nat
  | [] => 0
  | d :: r => uptoBulk d + uptoBulkAll r
def uptoBulkEntries {H : Type} : List (Lit × DataW H) → Nat
  | [] => 0
  | x :: r => uptoBulkEntry x + uptoBulkEntries r
def uptoBulkEntry {H : Type} : Lit × DataW H → Nat
  | (.string bytes, d) => bytes.length + uptoBulk d + 1
  | (_, d) => uptoBulk d + 1
 end
def uptoSmall : (H : Type) → List (DataW H) → Bool := fun _ ds => decide (uptoBulkAll ds ≤ 1048576)
def OpenSpec.upto (s : _root_.Go.ChangeSpec) : _root_.Go.OpenSpec := { _root_.Go.OpenSpec.ofChange s with cond := some uptoSmall }

/-- 'innkeeperlaw10.TypesMatchesReference', WHERE WHAT IT READS IS OF BULK AT MOST 1048576: true; the input reads as it did. -/
def typesMatchesReferenceUptoRow : OpenClaim := { program := "ytcmodmchnokmgaa", sum := "26ffa14b82727ab3483f5986d5920eb425d175a0263560dc7b97e8f40c755236", func := "innkeeper/innkeeperlaw10.TypesMatchesReference", spec := "typesMatchesReference", unfollowed := true, recurses := true, loops := true, plainKeys := false, apart := false, narrowed := true }
def TypesMatchesReferenceUptoSaid : Prop := typesMatchesReferenceUptoRow.holds Try.pinned (OpenSpec.upto typesMatchesReferenceSpec)

/-- 'innkeeperlaw10.TypesParts', WHERE WHAT IT READS IS OF BULK AT MOST 1048576: true; the input reads as it did. -/
def typesPartsUptoRow : OpenClaim := { program := "ytcmodmchnokmgaa", sum := "26ffa14b82727ab3483f5986d5920eb425d175a0263560dc7b97e8f40c755236", func := "innkeeper/innkeeperlaw10.TypesParts", spec := "typesParts", unfollowed := true, recurses := true, loops := true, plainKeys := false, apart := false, narrowed := true }
def TypesPartsUptoSaid : Prop := typesPartsUptoRow.holds Try.pinned (OpenSpec.upto typesPartsSpec)

/-- 'innkeeperlaw10.TypesReplaced', WHERE WHAT IT READS IS OF BULK AT MOST 1048576: true; the input reads as it did. -/
def typesReplacedUptoRow : OpenClaim := { program := "ytcmodmchnokmgaa", sum := "26ffa14b82727ab3483f5986d5920eb425d175a0263560dc7b97e8f40c755236", func := "innkeeper/innkeeperlaw10.TypesReplaced", spec := "typesReplaced", unfollowed := true, recurses := true, loops := true, plainKeys := false, apart := false, narrowed := true }
def TypesReplacedUptoSaid : Prop := typesReplacedUptoRow.holds Try.pinned (OpenSpec.upto typesReplacedSpec)

/-- 'innkeeperlaw10.TypesRates', WHERE WHAT IT READS IS OF BULK AT MOST 1048576: true; the input reads as it did. -/
def typesRatesUptoRow : OpenClaim := { program := "ytcmodmchnokmgaa", sum := "26ffa14b82727ab3483f5986d5920eb425d175a0263560dc7b97e8f40c755236", func := "innkeeper/innkeeperlaw10.TypesRates", spec := "typesRates", unfollowed := true, recurses := true, loops := true, plainKeys := false, apart := false, narrowed := true }
def TypesRatesUptoSaid : Prop := typesRatesUptoRow.holds Try.pinned (OpenSpec.upto typesRatesSpec)

/-- 'innkeeperlaw10.TypesTogether', WHERE WHAT IT READS IS OF BULK AT MOST 1048576: true; the input reads as it did. -/
def typesTogetherUptoRow : OpenClaim := { program := "ytcmodmchnokmgaa", sum := "26ffa14b82727ab3483f5986d5920eb425d175a0263560dc7b97e8f40c755236", func := "innkeeper/innkeeperlaw10.TypesTogether", spec := "typesTogether", unfollowed := true, recurses := true, loops := true, plainKeys := false, apart := false, narrowed := true }
def TypesTogetherUptoSaid : Prop := typesTogetherUptoRow.holds Try.pinned (OpenSpec.upto typesTogetherSpec)

/-- 'innkeeperlaw11.RateApplies', WHERE WHAT IT READS IS OF BULK AT MOST 1048576: true; the input reads as it did. -/
def rateAppliesUptoRow : OpenClaim := { program := "ytcmodmchnokmgaa", sum := "26ffa14b82727ab3483f5986d5920eb425d175a0263560dc7b97e8f40c755236", func := "innkeeper/innkeeperlaw11.RateApplies", spec := "rateApplies", unfollowed := true, recurses := true, loops := true, plainKeys := false, apart := false, narrowed := true }
def RateAppliesUptoSaid : Prop := rateAppliesUptoRow.holds Try.pinned (OpenSpec.upto rateAppliesSpec)

/-- 'innkeeperlaw11.RateWinner', WHERE WHAT IT READS IS OF BULK AT MOST 1048576: true; the input reads as it did. -/
def rateWinnerUptoRow : OpenClaim := { program := "ytcmodmchnokmgaa", sum := "26ffa14b82727ab3483f5986d5920eb425d175a0263560dc7b97e8f40c755236", func := "innkeeper/innkeeperlaw11.RateWinner", spec := "rateWinner", unfollowed := true, recurses := true, loops := true, plainKeys := false, apart := false, narrowed := true }
def RateWinnerUptoSaid : Prop := rateWinnerUptoRow.holds Try.pinned (OpenSpec.upto rateWinnerSpec)

/-- 'innkeeperlaw11.RateOrder', WHERE WHAT IT READS IS OF BULK AT MOST 1048576: true; the input reads as it did. -/
def rateOrderUptoRow : OpenClaim := { program := "ytcmodmchnokmgaa", sum := "26ffa14b82727ab3483f5986d5920eb425d175a0263560dc7b97e8f40c755236", func := "innkeeper/innkeeperlaw11.RateOrder", spec := "rateOrder", unfollowed := true, recurses := true, loops := true, plainKeys := false, apart := false, narrowed := true }
def RateOrderUptoSaid : Prop := rateOrderUptoRow.holds Try.pinned (OpenSpec.upto rateOrderSpec)

/-- 'innkeeperlaw11.RateSums', WHERE WHAT IT READS IS OF BULK AT MOST 1048576: true; the input reads as it did. -/
def rateSumsUptoRow : OpenClaim := { program := "ytcmodmchnokmgaa", sum := "26ffa14b82727ab3483f5986d5920eb425d175a0263560dc7b97e8f40c755236", func := "innkeeper/innkeeperlaw11.RateSums", spec := "rateSums", unfollowed := true, recurses := true, loops := true, plainKeys := false, apart := false, narrowed := true }
def RateSumsUptoSaid : Prop := rateSumsUptoRow.holds Try.pinned (OpenSpec.upto rateSumsSpec)

/-- 'innkeeperlaw14.SplitFlat', WHERE WHAT IT READS IS OF BULK AT MOST 1048576: true; the input reads as it did. -/
def splitFlatUptoRow : OpenClaim := { program := "ytcmodmchnokmgaa", sum := "26ffa14b82727ab3483f5986d5920eb425d175a0263560dc7b97e8f40c755236", func := "innkeeper/innkeeperlaw14.SplitFlat", spec := "splitFlat", unfollowed := true, recurses := true, plainKeys := false, apart := false, narrowed := true }
def SplitFlatUptoSaid : Prop := splitFlatUptoRow.holds Try.pinned (OpenSpec.upto splitFlatSpec)

end Rows
end Go.Proofs.Ytcmodmchnokmgaa
