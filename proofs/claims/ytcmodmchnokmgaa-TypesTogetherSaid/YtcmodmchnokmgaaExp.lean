/-
  Expressions: trees in memory; which are well-formed; their types.
-/
import Derived.Test.YtcmodmchnokmgaaBase2
namespace Go.Proofs.Ytcmodmchnokmgaa
set_option linter.unusedSimpArgs false
set_option linter.unusedVariables false
open Go.RowKit

/-- An expression: operator, number, where its kids lie, the kids. -/
inductive Ex where
  | node (op n : Int) (ad : Option Addr) (cap : Nat) (ks : List Ex)
def Ex.op : Ex → Int | .node op _ _ _ _ => op
def Ex.n : Ex → Int | .node _ n _ _ _ => n
def Ex.at' : Ex → Option Addr | .node _ _ ad _ _ => ad
def Ex.cap : Ex → Nat | .node _ _ _ cap _ => cap
def Ex.ks : Ex → List Ex | .node _ _ _ _ ks => ks
def Ex.cells (x : Ex) : List Value := [.int .i64 x.op, .int .i64 x.n, .slice x.at' x.ks.length x.cap]
def Ex.val (x : Ex) : Value := .agg #[.int .i64 x.op, .int .i64 x.n, .slice x.at' x.ks.length x.cap]

/-- Its kids' cells lie at ad from the i-th on. -/
def KidAt (w : World) (ad : Option Addr) (i : Nat) (x : Ex) : Prop := ∃ b off, ad = some ⟨b, off, none⟩ ∧ w.cell? ⟨b, off + i * 3, none⟩ = some (.int .i64 x.op) ∧ w.cell? ⟨b, off + i * 3 + 1, none⟩ = some (.int .i64 x.n) ∧ w.cell? ⟨b, off + i * 3 + 2, none⟩ = some (.slice x.at' x.ks.length x.cap)
mutual
def Ex.In (w : World) : Ex → Prop
  | .node _ _ ad cap ks => (ks.length ≤ cap ∧ cap ≤ maxLen) ∧ ExIn w ad 0 ks
def ExIn (w : World) (ad : Option Addr) (i : Nat) : List Ex → Prop
  | [] => True
  | x :: r => (KidAt w ad i x ∧ x.In w) ∧ ExIn w ad (i + 1) r
end
theorem ExIn.get {w : World} {ad : Option Addr} : ∀ {l : List Ex} {i j : Nat} {x : Ex}, ExIn w ad i l → l[j]? = some x → KidAt w ad (i + j) x ∧ x.In w
  | [], _, _, _, _, h => by simp at h
  | y :: r, i, 0, x, h, hx => by
    simp at hx
    subst hx
    unfold ExIn at h
    exact h.1
  | y :: r, i, j + 1, x, h, hx => by
    unfold ExIn at h
    have := ExIn.get h.2 (j := j) (by simpa using hx)
    rw [show i + (j + 1) = i + 1 + j by omega]
    exact this
theorem ExIn.of {w : World} {ad : Option Addr} : ∀ {l : List Ex} {i : Nat}, (∀ j x, l[j]? = some x → KidAt w ad (i + j) x ∧ x.In w) → ExIn w ad i l
  | [], _, _ => by unfold ExIn; trivial
  | y :: r, i, h => by
    unfold ExIn
    exact ⟨by simpa using h 0 y rfl, ExIn.of (fun j x hx => by
      have := h (j + 1) x (by simpa using hx)
      rwa [show i + (j + 1) = i + 1 + j by omega] at this)⟩
theorem Ex.In.caps {w : World} {x : Ex} (h : x.In w) : x.ks.length ≤ x.cap ∧ x.cap ≤ maxLen := by
  cases x; unfold Ex.In at h; exact h.1
theorem Ex.In.kids {w : World} {x : Ex} (h : x.In w) : ExIn w x.at' 0 x.ks := by
  cases x; unfold Ex.In at h; exact h.2
theorem Ex.In.kid {w : World} {x : Ex} (h : x.In w) {j : Nat} {y : Ex} (hy : x.ks[j]? = some y) : y.In w ∧ ∃ b off, x.at' = some ⟨b, off, none⟩ ∧ b < w.heap.size ∧ w.cell? ⟨b, off + j * 3, none⟩ = some (.int .i64 y.op) ∧ w.cell? ⟨b, off + j * 3 + 1, none⟩ = some (.int .i64 y.n) ∧ w.cell? ⟨b, off + j * 3 + 2, none⟩ = some (.slice y.at' y.ks.length y.cap) := by
  obtain ⟨⟨b, off, e, c0, c1, c2⟩, h2⟩ := h.kids.get hy
  rw [Nat.zero_add] at c0 c1 c2
  exact ⟨h2, b, off, e, World.block_lt_of_cell? w _ c0, c0, c1, c2⟩
theorem Ex.In.len {w : World} {x : Ex} (h : x.In w) : x.ks.length ≤ 9223372036854775807 := by
  have := h.caps; unfold maxLen at this; omega
theorem KidAt.step {w w1 : World} {ad : Option Addr} {i : Nat} {x : Ex} (h : KidAt w ad i x) (hb : Below w.heap.size w w1) : KidAt w1 ad i x := by
  obtain ⟨b, off, e, c0, c1, c2⟩ := h
  have hl := World.block_lt_of_cell? w _ c0
  exact ⟨b, off, e, (hb.cell (p := ⟨b, off + i * 3, none⟩) hl).trans c0, (hb.cell (p := ⟨b, off + i * 3 + 1, none⟩) hl).trans c1, (hb.cell (p := ⟨b, off + i * 3 + 2, none⟩) hl).trans c2⟩
mutual
theorem Ex.In.step {w w1 : World} (hb : Below w.heap.size w w1) : ∀ {x : Ex}, x.In w → x.In w1
  | .node _ _ _ _ ks, h => by
    unfold Ex.In at h ⊢
    exact ⟨h.1, ExIn.step hb h.2⟩
theorem ExIn.step {w w1 : World} (hb : Below w.heap.size w w1) {ad : Option Addr} : ∀ {i : Nat} {l : List Ex}, ExIn w ad i l → ExIn w1 ad i l
  | _, [], _ => by unfold ExIn; trivial
  | i, x :: r, h => by
    unfold ExIn at h ⊢
    exact ⟨⟨h.1.1.step hb, Ex.In.step hb h.1.2⟩, ExIn.step hb h.2⟩
end

/-! How many nodes, how deep; which are well-formed. -/
mutual
def Ex.size : Ex → Nat | .node _ _ _ _ ks => 1 + szL ks
def szL : List Ex → Nat
  | [] => 0
  | x :: r => x.size + szL r
end
mutual
def Ex.depth : Ex → Nat | .node _ _ _ _ ks => 1 + dpL ks
def dpL : List Ex → Nat
  | [] => 0
  | x :: r => max x.depth (dpL r)
end
def inE (n lo hi : Int) : Bool := decide (lo ≤ n) && decide (n ≤ hi)
/-- Is a node well-formed, without its kids? -/
def nodeB (op n : Int) (k : Nat) : Bool :=
  if op = 1 then decide (k = 0) && inE n 0 999999999
  else if op = 2 then decide (k = 0) && inE n 0 1000000000
  else if op = 3 then decide (k = 0) && inE n 1 4
  else if op = 15 then decide (k = 1) && decide (n = 0)
  else if op = 10 then decide (k = 3) && decide (n = 0)
  else inE op 4 14 && (decide (k = 2) && decide (n = 0))
mutual
def Ex.ok : Ex → Bool | .node op n _ _ ks => nodeB op n ks.length && okL ks
def okL : List Ex → Bool
  | [] => true
  | x :: r => x.ok && okL r
end
def validE (x : Ex) : Bool := x.ok && (decide (x.depth ≤ 30) && decide (x.size ≤ 200))
theorem Ex.size_eq (x : Ex) : x.size = 1 + szL x.ks := by cases x; simp only [Ex.size, Ex.ks]
theorem Ex.depth_eq (x : Ex) : x.depth = 1 + dpL x.ks := by cases x; simp only [Ex.depth, Ex.ks]
theorem Ex.ok_eq (x : Ex) : x.ok = (nodeB x.op x.n x.ks.length && okL x.ks) := by cases x; simp only [Ex.ok, Ex.ks, Ex.op, Ex.n]
theorem Ex.size_pos (x : Ex) : 1 ≤ x.size := by rw [x.size_eq]; omega
theorem szL_append (l m : List Ex) : szL (l ++ m) = szL l + szL m := by
  induction l with
  | nil => simp [szL]
  | cons x r ih => simp only [List.cons_append, szL, ih]; omega
theorem dpL_append (l m : List Ex) : dpL (l ++ m) = max (dpL l) (dpL m) := by
  induction l with
  | nil => simp [dpL]
  | cons x r ih => simp only [List.cons_append, dpL, ih]; omega
theorem okL_append (l m : List Ex) : okL (l ++ m) = (okL l && okL m) := by
  induction l with
  | nil => simp [okL]
  | cons x r ih => simp only [List.cons_append, okL, ih, Bool.and_assoc]
theorem take_snocE {l : List Ex} {k : Nat} {x : Ex} (h : l[k]? = some x) : l.take (k + 1) = l.take k ++ [x] := by
  obtain ⟨hk, e⟩ := List.getElem?_eq_some_iff.1 h
  rw [List.take_succ_eq_append_getElem hk, e]
theorem szL_take {l : List Ex} {k : Nat} {x : Ex} (h : l[k]? = some x) : szL (l.take (k + 1)) = szL (l.take k) + x.size := by
  rw [take_snocE h, szL_append]; simp [szL]
theorem dpL_take {l : List Ex} {k : Nat} {x : Ex} (h : l[k]? = some x) : dpL (l.take (k + 1)) = max (dpL (l.take k)) x.depth := by
  rw [take_snocE h, dpL_append]; simp [dpL]
theorem okL_take {l : List Ex} {k : Nat} {x : Ex} (h : l[k]? = some x) : okL (l.take (k + 1)) = (okL (l.take k) && x.ok) := by
  rw [take_snocE h, okL_append]; simp [okL]
theorem szL_mem {l : List Ex} {k : Nat} {x : Ex} (h : l[k]? = some x) : szL (l.take k) + x.size ≤ szL l := by
  rw [← szL_take h]
  conv => rhs; rw [← List.take_append_drop (k + 1) l, szL_append]
  omega
theorem dpL_mem {l : List Ex} {k : Nat} {x : Ex} (h : l[k]? = some x) : x.depth ≤ dpL l := by
  have h1 := dpL_take h
  have h2 : dpL (l.take (k + 1)) ≤ dpL l := by
    conv => rhs; rw [← List.take_append_drop (k + 1) l, dpL_append]
    omega
  omega
theorem okL_mem {l : List Ex} {k : Nat} {x : Ex} (h : l[k]? = some x) (ho : okL l = true) : x.ok = true := by
  have h1 := okL_take h
  rw [← List.take_append_drop (k + 1) l, okL_append, Bool.and_eq_true] at ho
  rw [ho.1] at h1
  have := h1.symm
  rw [Bool.and_eq_true] at this
  exact this.2
/-- Well-formed, not too deep, not too large. -/
def fitsE (x : Ex) (lv : Nat) (left : Int) : Bool := x.ok && (decide (x.depth ≤ lv) && decide ((x.size : Int) ≤ left))
theorem validE_fits (x : Ex) : validE x = fitsE x 30 200 := by
  unfold validE fitsE
  congr 2
  simp; omega
theorem inE_iff {n lo hi : Int} : inE n lo hi = true ↔ lo ≤ n ∧ n ≤ hi := by unfold inE; simp
theorem inE_no {n lo hi : Int} : inE n lo hi = false ↔ ¬ (lo ≤ n ∧ n ≤ hi) := by rw [← Bool.not_eq_true, inE_iff]

/-! Types: 0 is none. -/
def tyOp (op : Int) (a b c : Int) : Int :=
  if op = 1 ∨ op = 3 then 1
  else if op = 2 then 2
  else if op = 4 ∨ op = 5 ∨ op = 8 ∨ op = 9 then (if a = b ∧ a ≠ 3 then a else 0)
  else if op = 6 then (if a = 1 ∧ b = 1 then 1 else if a = 2 ∧ b = 1 ∨ a = 1 ∧ b = 2 then 2 else 0)
  else if op = 7 then (if b = 1 ∧ a ≠ 3 then a else 0)
  else if op = 11 ∨ op = 12 then (if a = b ∧ a ≠ 3 then 3 else 0)
  else if op = 13 ∨ op = 14 then (if a = 3 ∧ b = 3 then 3 else 0)
  else if op = 15 then (if a = 3 then 3 else 0)
  else if op = 10 then (if a = 3 ∧ b = c then b else 0)
  else 0
mutual
def Ex.ty : Ex → Int | .node op _ _ _ ks => let ts := tyL ks; if ts.any (fun t => decide (t = 0)) then 0 else tyOp op (ts.getD 0 0) (ts.getD 1 0) (ts.getD 2 0)
def tyL : List Ex → List Int
  | [] => []
  | x :: r => x.ty :: tyL r
end
theorem tyL_map (l : List Ex) : tyL l = l.map Ex.ty := by
  induction l with
  | nil => simp [tyL]
  | cons x r ih => simp [tyL, ih]
theorem Ex.ty_eq (x : Ex) : x.ty = if (x.ks.map Ex.ty).any (fun t => decide (t = 0)) = true then 0 else tyOp x.op ((x.ks.map Ex.ty).getD 0 0) ((x.ks.map Ex.ty).getD 1 0) ((x.ks.map Ex.ty).getD 2 0) := by
  cases x; simp only [Ex.ty, Ex.ks, Ex.op, tyL_map]; rfl
theorem tyOp_range {op a b c : Int} (ha : 0 ≤ a ∧ a ≤ 3) (hb : 0 ≤ b ∧ b ≤ 3) : 0 ≤ tyOp op a b c ∧ tyOp op a b c ≤ 3 := by
  unfold tyOp
  (repeat' split) <;> omega
mutual
theorem Ex.ty_range : ∀ x : Ex, 0 ≤ x.ty ∧ x.ty ≤ 3
  | .node op _ _ _ ks => by
    simp only [Ex.ty]
    split
    · omega
    · have h := tyL_range ks
      have g : ∀ i, 0 ≤ (tyL ks).getD i 0 ∧ (tyL ks).getD i 0 ≤ 3 := fun i => by
        by_cases hi : i < (tyL ks).length
        · rw [List.getD_eq_getElem?_getD, List.getElem?_eq_getElem hi, Option.getD_some]
          exact h _ (List.getElem_mem hi)
        · rw [List.getD_eq_getElem?_getD, List.getElem?_eq_none (Nat.le_of_not_lt hi)]; simp
      exact tyOp_range (g 0) (g 1)
theorem tyL_range : ∀ (l : List Ex), ∀ t ∈ tyL l, 0 ≤ t ∧ t ≤ 3
  | [], t, h => by simp [tyL] at h
  | x :: r, t, h => by
    simp only [tyL, List.mem_cons] at h
    rcases h with rfl | h
    · exact Ex.ty_range x
    · exact tyL_range r t h
end

end Go.Proofs.Ytcmodmchnokmgaa
