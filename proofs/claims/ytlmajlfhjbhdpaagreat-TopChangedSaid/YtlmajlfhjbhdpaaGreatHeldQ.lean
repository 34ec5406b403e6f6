/-
 The beginning of a region that draws its order, walked operation by operation, in a plain walk.
-/
import Derived.Test.YtlmajlfhjbhdpaaGreatHeldJ
namespace Go.Proofs.YtlmajlfhjbhdpaaGreat
set_option linter.unusedSimpArgs false
set_option linter.unusedVariables false
open Go.RowKit
theorem AnyJ.beginP {P : Program} {ops : Array Oper} {Q : Exit → Act → World → Prop} {id : Nat} {a : Act} {w : World} (S : World → Prop) (J : Nat → Bool) (hm : P.follows .mixedOrders = true) (hS : S w.drew)
  (h : S w.drew → AnyJ P .any ops Q S J ops.size (Array.replicate ops.size false) a w.drew) : (Code.region id ops true).wp P Q a w :=
 wp_region_any hm (AnyJ.any _ _ _ _ (h hS))
/-- What yields is taken first; its slot told. -/
theorem AnyJ.takeD {P : Program} {ops : Array Oper} {Q : Exit → Act → World → Prop} {md : Region.Mode} {S : World → Prop} {J : Nat → Bool} {i : Nat} {o : Oper} {d : Option Tmp} {v : Value} {f : Nat} {ls : Array Bool} {a : Act} {w : World} (hi : ops[i]? = some o) (hd : o.dst = d) (hs : Region.noSelect ops = true) (hf : Region.free md ops ls i = true) (hr : (Region.ready md ops ls).contains i = true)
  (hJ : waitsB md ops ls i J = true) (hQ : ∀ c a w, Q (.panic c) (a.put d v) w → Q (.panic c) a w) (hy : YieldsIf P ops S o v a) (hS : S w)
  (h : AnyJ P md ops Q S J f (ls.setIfInBounds i true) (a.put d v) w) : AnyJ P md ops Q S J (f + 1) ls a w := by
 subst hd
 exact AnyJ.take hi hs hf hr hJ hQ hy hS h
end Go.Proofs.YtlmajlfhjbhdpaaGreat
