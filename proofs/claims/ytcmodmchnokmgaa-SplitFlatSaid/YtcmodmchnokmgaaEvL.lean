/-
 What lies below a block stands, whatever a range over a function writes above it; the rates that apply, as a list.
-/
import Derived.Test.YtcmodmchnokmgaaEvK
import Derived.Test.YtcmodmchnokmgaaMC
namespace Go.Proofs.Ytcmodmchnokmgaa
set_option linter.unusedSimpArgs false
set_option linter.unusedVariables false
open Go.RowKit
/-- The cells of all blocks below g stand. -/
def Lo (g : Nat) (A B : World) : Prop := ∀ b cs T fr, b < g → A.heap[b]? = some (.cells cs T fr) → B.heap[b]? = some (.cells cs T fr)
theorem Lo.refl (g : Nat) (A : World) : Lo g A A := fun _ _ _ _ _ h => h
theorem Lo.trans {g : Nat} {A B C : World} (h : Lo g A B) (k : Lo g B C) : Lo g A C := fun b cs T fr hb e => k b cs T fr hb (h b cs T fr hb e)
theorem Lo.of_below {g : Nat} {A B : World} (hb : Below A.heap.size A B) : Lo g A B := fun b cs T fr _ e => (hb.block b (Array.getElem?_eq_some_iff.1 e).1).trans e
theorem Lo.of_below' {g : Nat} {A B : World} (hb : Below g A B) : Lo g A B := fun b cs T fr hlt e => (hb.block b hlt).trans e
theorem Lo.of_keeps {own : World → Nat → Prop} {g : Nat} {A B : World} (k : KeepsO own A B) (hn : ∀ b, own A b → g ≤ b) : Lo g A B := fun b cs T fr hlt e => (k.2.1 b cs T fr e (fun ho => by have := hn b ho; omega)).trans e
theorem Lo.cell {g : Nat} {A B : World} (h : Lo g A B) {b o : Nat} {v : Value} (hb : b < g) (hc : A.cell? ⟨b, o, none⟩ = some v) : B.cell? ⟨b, o, none⟩ = some v := by
 unfold World.cell? at hc ⊢
 simp only at hc ⊢
 cases hh : A.heap[b]? with
 | none => rw [hh] at hc; simp at hc
 | some ob =>
  rw [hh] at hc
  cases ob with
  | cells cs T fr => rw [h b cs T fr hb hh]; exact hc
  | _ => simp at hc
theorem Lo.row {g : Nat} {A B : World} (h : Lo g A B) {b : Nat} {cs : List Value} (hb : b < g) (hr : Row A b cs) : Row B b cs := by
 obtain ⟨T, e⟩ := hr
 exact ⟨T, h b _ _ _ hb e⟩
mutual
theorem Ex.In.lo {g : Nat} {A B : World} (h : Lo g A B) (hg : A.heap.size ≤ g) : ∀ {x : Ex}, x.In A → x.In B
 | .node _ _ ad _ ks, hx => by
  unfold Ex.In at hx ⊢
  exact ⟨hx.1, ExIn.lo h hg hx.2⟩
theorem ExIn.lo {g : Nat} {A B : World} (h : Lo g A B) (hg : A.heap.size ≤ g) {ad : Option Addr} : ∀ {i : Nat} {l : List Ex}, ExIn A ad i l → ExIn B ad i l
 | _, [], _ => by unfold ExIn; trivial
 | i, x :: r, hx => by
  unfold ExIn at hx ⊢
  refine ⟨⟨?_, Ex.In.lo h hg hx.1.2⟩, ExIn.lo h hg hx.2⟩
  obtain ⟨b, off, e, c0, c1, c2⟩ := hx.1.1
  have hl := World.block_lt_of_cell? A _ c0
  simp only at hl
  exact ⟨b, off, e, h.cell (by omega) c0, h.cell (by omega) c1, h.cell (by omega) c2⟩
end
theorem RateV.In.lo {g : Nat} {A B : World} (h : Lo g A B) (hg : A.heap.size ≤ g) {r : RateV} (hr : r.In A) : r.In B := ⟨Ex.In.lo h hg hr.1, Ex.In.lo h hg hr.2⟩
theorem SlR.lo {g : Nat} {A B : World} {a : Option Addr} {n : Nat} {l : List RateV} (h : Lo g A B) (hg : A.heap.size ≤ g) (hs : SlR A a n l) : SlR B a n l := by
 refine ⟨hs.1, fun i x hx => ?_⟩
 obtain ⟨hi, b, off, ha, h1⟩ := hs.2 i x hx
 refine ⟨hi.lo h hg, b, off, ha, fun j v hj => ?_⟩
 have hl := World.block_lt_of_cell? A _ (h1 j v hj)
 simp only at hl
 exact h.cell (by omega) (h1 j v hj)
/-- What is yielded: a rate of the list that applies, or whose condition fails, with the error. -/
abbrev ThT (l : List RateV) (a : AskV) (nt : Int) := { p : RateV × Int // p.1 ∈ l ∧ p.2 = (appl p.1 a nt).2 ∧ ((appl p.1 a nt).1 = true ∨ p.2 ≠ 0) }
def thF (l : List RateV) (a : AskV) (nt : Int) (r : { r : RateV // r ∈ l }) : Option (ThT l a nt) :=
 if h : (appl r.1 a nt).1 = true ∨ (appl r.1 a nt).2 ≠ 0 then some ⟨(r.1, (appl r.1 a nt).2), r.2, rfl, h⟩ else none
/-- What the first k rates yield. -/
def thK (l : List RateV) (a : AskV) (nt : Int) (k : Nat) : List (ThT l a nt) := (l.attach.take k).filterMap (thF l a nt)
theorem thK_zero (l : List RateV) (a : AskV) (nt : Int) : thK l a nt 0 = [] := rfl
theorem thK_yes {l : List RateV} {a : AskV} {nt : Int} {k : Nat} {r : RateV} (hr : l[k]? = some r) (h : (appl r a nt).1 = true ∨ (appl r a nt).2 ≠ 0) :
  thK l a nt (k + 1) = thK l a nt k ++ [⟨(r, (appl r a nt).2), List.mem_of_getElem? hr, rfl, h⟩] := by
 obtain ⟨hk, e⟩ := List.getElem?_eq_some_iff.1 hr
 subst e
 unfold thK
 rw [List.take_succ_eq_append_getElem (by rw [List.length_attach]; exact hk), List.filterMap_append]
 congr 1
 simp [thF, h]
theorem thK_no {l : List RateV} {a : AskV} {nt : Int} {k : Nat} {r : RateV} (hr : l[k]? = some r) (h : ¬ ((appl r a nt).1 = true ∨ (appl r a nt).2 ≠ 0)) :
  thK l a nt (k + 1) = thK l a nt k := by
 obtain ⟨hk, e⟩ := List.getElem?_eq_some_iff.1 hr
 subst e
 unfold thK
 rw [List.take_succ_eq_append_getElem (by rw [List.length_attach]; exact hk), List.filterMap_append]
 simp [thF, h]
theorem thK_prefix (l : List RateV) (a : AskV) (nt : Int) (k : Nat) : thK l a nt k <+: thK l a nt l.length := by
 unfold thK
 rw [List.take_of_length_le (i := l.length) (by simp)]
 conv => rhs; rw [← List.take_append_drop k l.attach, List.filterMap_append]
 exact List.prefix_append _ _
theorem thK_length (l : List RateV) (a : AskV) (nt : Int) (k : Nat) (hk : k ≤ l.length) : (thK l a nt k).length ≤ k := by
 unfold thK
 have := List.length_filterMap_le (thF l a nt) (l.attach.take k)
 simp at this
 omega
set_option maxHeartbeats 800000 in
theorem those_any (ad : Option Addr) (n cap : Nat) (k fr un ps nt : Int) (w : World) :
  Calls Try.prog 82 #[.slice ad n cap, .agg #[.int .i64 k, .int .i64 fr, .int .i64 un, .int .i64 ps], .int .i64 nt] w fun e w' =>
   e = .returned (.func (.func 102) #[] #[.pointer (some ⟨w.heap.size, 0, none⟩), .pointer (some ⟨w.heap.size + 1, 0, none⟩), .pointer (some ⟨w.heap.size + 1 + 1, 0, none⟩)]) ∧
   Row w' w.heap.size [.slice ad n cap] ∧ Row w' (w.heap.size + 1) [.int .i64 k, .int .i64 fr, .int .i64 un, .int .i64 ps] ∧ Row w' (w.heap.size + 1 + 1) [.int .i64 nt] ∧ Below w.heap.size w w' := by
 go_enter Try.func82, Try.ntmps82
 go_wp2_with fail
 go_ret
 exact ⟨rfl, by (repeat' (first | (with_reducible assumption) | (with_reducible refine Row.new' _ _ _ (by first | rfl | (simp; done) | omega)) | (with_reducible refine Row.alloc ?_ _) | (with_reducible refine Row.drew ?_) | (with_reducible refine Row.drewN ?_ _) | (with_reducible refine Row.step ?_ (by with_reducible assumption)))), by (repeat' (first | (with_reducible assumption) | (with_reducible refine Row.new' _ _ _ (by first | rfl | (simp; done) | omega)) | (with_reducible refine Row.alloc ?_ _) | (with_reducible refine Row.drew ?_) | (with_reducible refine Row.drewN ?_ _) | (with_reducible refine Row.step ?_ (by with_reducible assumption)))), by (repeat' (first | (with_reducible assumption) | (with_reducible refine Row.new' _ _ _ (by first | rfl | (simp; done) | omega)) | (with_reducible refine Row.alloc ?_ _) | (with_reducible refine Row.drew ?_) | (with_reducible refine Row.drewN ?_ _) | (with_reducible refine Row.step ?_ (by with_reducible assumption)))), by (repeat' (first | (with_reducible first | exact Below.refl _ _ | assumption | exact Bw.out (by assumption) | refine bw_alloc ?_ _ | refine bw_step ?_ (by assumption) | refine Below.alloc ?_ ?_ _ | refine Below.drew ?_ | refine below_drewN ?_ _ | refine Below.setCell ?_ ?_ _ | refine below_step ?_ (by assumption) ?_ | exact Nat.le_refl _) | omega | (simp; omega) | (simp; done)))⟩
end Go.Proofs.Ytcmodmchnokmgaa
