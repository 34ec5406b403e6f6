/-
 The walks of package span: pieces (an iterator that writes memory of its own).
-/
import Derived.Test.YtlmajlfhjbhdpaaGreatZI
import Derived.Test.YtlmajlfhjbhdpaaGreatRngT
import Derived.Test.YtlmajlfhjbhdpaaGreatHeldQ
import Derived.BigQuiet
namespace Go.Proofs.YtlmajlfhjbhdpaaGreat
set_option linter.unusedSimpArgs false
set_option linter.unusedVariables false
open Go.RowKit Go.Shelf
attribute [local go_sem] Oper.semAt_some
abbrev encP (p : Int × Int × Bool × Bool) : Array Value := #[.agg #[.int .i64 p.1, .int .i64 p.2.1], .agg #[.bool p.2.2.1, .bool p.2.2.2]]
/-- The pieces so far, where the next one begins, whether it is in both sets. -/
structure PcV where
 pcs : List (Int × Int × Bool × Bool)
 at' : Int
 i0 : Bool
 i1 : Bool
def stepP (s : PcV) (e : Int × Int × Int) : PcV :=
 ⟨if s.at' < e.1 then s.pcs ++ [(s.at', e.1, s.i0, s.i1)] else s.pcs, e.1, if e.2.1 = 0 then decide (0 < e.2.2) else s.i0, if e.2.1 = 0 then s.i1 else decide (0 < e.2.2)⟩
def pP (l : List (Int × Int × Int)) (k : Nat) : PcV := (l.take k).foldl stepP ⟨[], 0, false, false⟩
theorem pP_succ {l : List (Int × Int × Int)} {k : Nat} {e : Int × Int × Int} (h : l[k]? = some e) : pP l (k + 1) = stepP (pP l k) e := by
 obtain ⟨hk, e'⟩ := List.getElem?_eq_some_iff.1 h
 unfold pP
 rw [List.take_succ_eq_append_getElem hk, e', List.foldl_append]
 rfl
theorem stepP_prefix (s : PcV) (e : Int × Int × Int) : s.pcs <+: (stepP s e).pcs := by
 unfold stepP
 simp only
 split
 ·
  exact List.prefix_append _ _
 ·
  exact List.prefix_refl _
theorem foldP_prefix : ∀ (l : List (Int × Int × Int)) (s : PcV), s.pcs <+: (l.foldl stepP s).pcs
 | [], s => List.prefix_refl _
 | e :: r, s => (stepP_prefix s e).trans (foldP_prefix r _)
theorem pP_prefix (l : List (Int × Int × Int)) (k n : Nat) (h : k ≤ n) : (pP l k).pcs <+: (pP l n).pcs := by
 have e : l.take n = l.take k ++ (l.take n).drop k := by
  have := List.take_append_drop k (l.take n)
  rw [List.take_take, Nat.min_eq_left h] at this
  exact this.symm
 unfold pP
 rw [e, List.foldl_append]
 exact foldP_prefix _ _
theorem pP_length (l : List (Int × Int × Int)) : ∀ k, k ≤ l.length → (pP l k).pcs.length ≤ k
 | 0, _ => by simp [pP]
 | k + 1, h => by
  have ih := pP_length l k (by omega)
  rw [pP_succ (List.getElem?_eq_getElem (show k < l.length by omega))]
  unfold stepP
  simp only
  split
  ·
   rw [List.length_append]; simp; omega
  ·
   omega
/-- All ends, in order; all pieces. -/
def allE (la lb : List (Int × Int)) : List (Int × Int × Int) := srtE (endsL 0 la ++ endsL 1 lb)
def pcL (la lb : List (Int × Int)) : List (Int × Int × Bool × Bool) := (pP (allE la lb) (allE la lb).length).pcs
theorem endsL_mark {m : Int} {l : List (Int × Int)} {e : Int × Int × Int} (h : e ∈ endsL m l) : e.2.1 = m := by
 unfold endsL at h
 obtain ⟨s, _, hs⟩ := List.mem_flatMap.1 h
 simp only [List.mem_cons, List.not_mem_nil, or_false] at hs
 rcases hs with rfl | rfl <;> rfl
theorem allE_mark {la lb : List (Int × Int)} {e : Int × Int × Int} (h : e ∈ allE la lb) : e.2.1 = 0 ∨ e.2.1 = 1 := by
 have := (srtE_perm _).mem_iff.1 h
 rcases List.mem_append.1 this with h | h
 ·
  exact Or.inl (endsL_mark h)
 ·
  exact Or.inr (endsL_mark h)
theorem allE_len (la lb : List (Int × Int)) : (allE la lb).length = 2 * la.length + 2 * lb.length := by
 unfold allE
 rw [(srtE_perm _).length_eq, List.length_append, endsL_len, endsL_len]
/-- Block b, of type T, holds the cells cs. -/
def RowT (w : World) (b : Nat) (T : TypeId) (cs : List Value) : Prop := w.heap[b]? = some (.cells cs.toArray T (0, 0))
theorem RowT.row {w : World} {b : Nat} {T : TypeId} {cs : List Value} (h : RowT w b T cs) : Row w b cs := ⟨T, h⟩
theorem RowT.new (w : World) (T : TypeId) (cs : List Value) : RowT (w.alloc (.cells cs.toArray T)) w.heap.size T cs := by show (w.heap.push _)[w.heap.size]? = _; simp
theorem RowT.below {w w' : World} {b B : Nat} {T : TypeId} {cs : List Value} (h : RowT w b T cs) (hb : Below B w w') (hlt : b < B) : RowT w' b T cs := (hb.block b hlt).trans h
theorem RowT.step {w w' : World} {b : Nat} {T : TypeId} {cs : List Value} (h : RowT w b T cs) (hb : Below w.heap.size w w') : RowT w' b T cs := h.below hb h.row.lt
theorem RowT.keepsO {own : World → Nat → Prop} {A B : World} {b : Nat} {T : TypeId} {cs : List Value} (h : RowT A b T cs) (k : KeepsO own A B) (hn : ¬ own A b) : RowT B b T cs := (k.2.1 b _ _ _ h hn).trans h
theorem RowT.set {w : World} {b : Nat} {T : TypeId} {cs : List Value} (h : RowT w b T cs) (i : Nat) (v : Value) : RowT (w.setCell ⟨b, i, none⟩ v) b T (cs.set i v) := by
 unfold RowT
 simp [World.setCell, Array.getElem?_modify, show w.heap[b]? = _ from h]
theorem RowT.other {w : World} {b : Nat} {T : TypeId} {cs : List Value} (h : RowT w b T cs) {a : Addr} (ha : b ≠ a.block) (v : Value) : RowT (w.setCell a v) b T cs := (Below.heap_setCell _ _ _ _ ha).trans h
theorem OwnG.keepsO {α : Type} {E : Enc α} {T : TypeId} {own : World → Nat → Prop} {A B : World} {base : Nat} {v : Value} {l : List α} (h : OwnG E T A base v l) (k : KeepsO own A B) (hn : ∀ g cs fr, v.ownBlock = some g → A.heap[g]? = some (.cells cs T fr) → ¬ own A g) : OwnG E T B base v l := by
 refine ⟨h.1, ?_⟩
 rcases h.2 with h2 | ⟨g, cap, cur, rfl, e2, e3, e4⟩
 ·
  exact Or.inl h2
 ·
  exact Or.inr ⟨g, cap, cur, rfl, e2, (k.2.1 g _ _ _ e3 (hn g _ _ rfl e3)).trans e3, e4⟩
theorem OwnG.ad {α : Type} {E : Enc α} {T : TypeId} {w : World} {base n cap : Nat} {ad : Option Addr} {l : List α} (h : OwnG E T w base (.slice ad n cap) l) (h0 : 0 < n) : ∃ g, ad = Option.some ⟨g, 0, none⟩ ∧ base ≤ g ∧ g < w.heap.size := by
 obtain ⟨hl, _⟩ := h.sizes
 obtain ⟨g, c, r, e, hb, hr, _⟩ := h.at (by omega)
 simp only [Value.slice.injEq] at e
 exact ⟨g, e.1, hb, hr.lt⟩
end Go.Proofs.YtlmajlfhjbhdpaaGreat
