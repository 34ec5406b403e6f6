/-
 Texts built as one: XBase, XBase2, XExp, XRte, XNd.
-/
import Derived.WalkKit
import Derived.WalkSpells
import Derived.WalkLawsBesides
import Derived.Deep.QuietTactic
import Derived.BigQuiet
import Derived.Handy
import Derived.Laws.EntriesVeiled
import Derived.Lib.Hide
namespace Go.Proofs.Ytcmodmchnokmgaa
section
set_option linter.unusedSimpArgs false
set_option linter.unusedVariables false
open Go.RowKit
@[simp] theorem size_drewN (w : World) (n : Nat) : (w.drewN n).heap.size = w.heap.size := rfl
/-- Behind a callee of which 'Below' is known. -/
theorem below_step {B : Nat} {a W w1 : World} (h : Below B a W) (hb : Below W.heap.size W w1) (hB : B ≤ W.heap.size) : Below B a w1 :=
 h.trans (hb.mono hB)
theorem bcell {W w1 : World} (hb : Below W.heap.size W w1) : (∀ b o, b < W.heap.size → w1.cell? ⟨b, o, none⟩ = W.cell? ⟨b, o, none⟩) ∧ (∀ b o, b < W.heap.size → w1.frozen? ⟨b, o, none⟩ = W.frozen? ⟨b, o, none⟩) :=
 ⟨fun b o h => hb.cell (p := ⟨b, o, none⟩) h, fun b o h => hb.frozen (p := ⟨b, o, none⟩) h⟩
/-- 'Below' behind a name that no tactic opens. -/
def Bw (B : Nat) (w w' : World) : Prop := Below B w w'
theorem Bw.out {B : Nat} {w w' : World} (h : Bw B w w') : Below B w w' := h
theorem ret_int {k : IntKind} {a b : Int} (h : a = b) : Ending.returned (.int k a) = .returned (.int k b) := by rw [h]
theorem ret_bool {a b : Bool} (h : a = b) : Ending.returned (.bool a) = .returned (.bool b) := by rw [h]
/-- Block b holds the cells cs, and nothing of it is frozen. -/
def Row (w : World) (b : Nat) (cs : List Value) : Prop := ∃ T, w.heap[b]? = some (.cells cs.toArray T (0, 0))
theorem Row.lt {w : World} {b : Nat} {cs : List Value} (h : Row w b cs) : b < w.heap.size := by
 obtain ⟨_, h⟩ := h
 exact (Array.getElem?_eq_some_iff.1 h).1
theorem Row.cell {w : World} {b : Nat} {cs : List Value} (h : Row w b cs) (i : Nat) {v : Value} (hv : cs[i]? = some v) : w.cell? ⟨b, i, none⟩ = some v := by
 obtain ⟨_, h⟩ := h
 simp [World.cell?, h, hv]
theorem Row.frozen {w : World} {b : Nat} {cs : List Value} (h : Row w b cs) (i : Nat) : w.frozen? ⟨b, i, none⟩ = false := by
 obtain ⟨_, h⟩ := h
 simp [World.frozen?, h]
theorem Row.new' {b : Nat} (w : World) (cs : List Value) (T : TypeId) (hb : b = w.heap.size) : Row (w.alloc (.cells cs.toArray T)) b cs := by
 subst hb
 exact ⟨T, by show (w.heap.push _)[w.heap.size]? = _; simp⟩
theorem Row.of_block {w w' : World} {b : Nat} {cs : List Value} (h : Row w b cs) (e : w'.heap[b]? = w.heap[b]?) : Row w' b cs := by
 obtain ⟨T, h⟩ := h
 exact ⟨T, e.trans h⟩
theorem Row.alloc {w : World} {b : Nat} {cs : List Value} (h : Row w b cs) (o : Obj) : Row (w.alloc o) b cs := h.of_block (Below.heap_alloc _ _ _ h.lt)
theorem Row.drew {w : World} {b : Nat} {cs : List Value} (h : Row w b cs) : Row w.drew b cs := h
theorem Row.drewN {w : World} {b : Nat} {cs : List Value} (h : Row w b cs) (n : Nat) : Row (w.drewN n) b cs := h
theorem Row.step {W w1 : World} {b : Nat} {cs : List Value} (h : Row W b cs) (hb : Below W.heap.size W w1) : Row w1 b cs := h.of_block (hb.block b h.lt)
theorem Row.other {w : World} {b : Nat} {cs : List Value} (h : Row w b cs) {a : Addr} (ha : b ≠ a.block) (v : Value) : Row (w.setCell a v) b cs := h.of_block (Below.heap_setCell _ _ _ _ ha)
/-- What was there at the head reads so still. -/
theorem Row.below {w w1 : World} {B b : Nat} {cs : List Value} (h : Row w b cs) (hb : Below B w w1) (hlt : b < B) : Row w1 b cs := h.of_block (hb.block b hlt)
theorem bw_alloc {a W : World} (h : Below a.heap.size a W) (o : Obj) : Below a.heap.size a (W.alloc o) := h.alloc h.size o
theorem bw_step {a W w1 : World} (h : Below a.heap.size a W) (hb : Below W.heap.size W w1) : Below a.heap.size a w1 := h.trans (hb.mono h.size)
end
section
set_option linter.unusedSimpArgs false
set_option linter.unusedVariables false
open Go.RowKit
theorem bsize {W w1 : World} (hb : Below W.heap.size W w1) : ∀ b, b < W.heap.size → b < w1.heap.size := fun b h => Nat.lt_of_lt_of_le h hb.size
theorem Row.set2 {w : World} {b : Nat} {x0 x1 : Value} (h : Row w b [x0, x1]) (v0 v1 : Value) : Row ((w.setCell ⟨b, 0, none⟩ v0).setCell ⟨b, 1, none⟩ v1) b [v0, v1] := by
 obtain ⟨T, h⟩ := h
 refine ⟨T, ?_⟩
 simp [World.setCell, Array.getElem?_modify, h]
theorem Row.set2' {w : World} {b : Nat} (h : ∃ x0 x1, Row w b [x0, x1]) (v0 v1 : Value) : Row ((w.setCell ⟨b, 0, none⟩ v0).setCell ⟨b, 1, none⟩ v1) b [v0, v1] := by
 obtain ⟨x0, x1, h⟩ := h
 exact h.set2 v0 v1
end
section
set_option linter.unusedSimpArgs false
set_option linter.unusedVariables false
open Go.RowKit
/-- An expression: operator, number, where its kids lie, the kids. -/
inductive Ex where
 | node (op n : Int) (ad : Option Addr) (cap : Nat) (ks : List Ex)
def Ex.op : Ex → Int | .node op _ _ _ _ => op
def Ex.n : Ex → Int | .node _ n _ _ _ => n
def Ex.at' : Ex → Option Addr | .node _ _ ad _ _ => ad
def Ex.cap : Ex → Nat | .node _ _ _ cap _ => cap
def Ex.ks : Ex → List Ex | .node _ _ _ _ ks => ks
def Ex.cells (x : Ex) : List Value := [.int .i64 x.op, .int .i64 x.n, .slice x.at' x.ks.length x.cap]
def Ex.val (x : Ex) : Value := .agg #[.int .i64 x.op, .int .i64 x.n, .slice x.at' x.ks.length x.cap]
/-- Its kids' cells lie at ad from the i-th on. -/
def KidAt (w : World) (ad : Option Addr) (i : Nat) (x : Ex) : Prop := ∃ b off, ad = some ⟨b, off, none⟩ ∧ w.cell? ⟨b, off + i * 3, none⟩ = some (.int .i64 x.op) ∧ w.cell? ⟨b, off + i * 3 + 1, none⟩ = some (.int .i64 x.n) ∧ w.cell? ⟨b, off + i * 3 + 2, none⟩ = some (.slice x.at' x.ks.length x.cap)
mutual
def Ex.In (w : World) : Ex → Prop
 | .node _ _ ad cap ks => (ks.length ≤ cap ∧ cap ≤ maxLen) ∧ ExIn w ad 0 ks
def ExIn (w : World) (ad : Option Addr) (i : Nat) : List Ex → Prop
 | [] => True
 | x :: r => (KidAt w ad i x ∧ x.In w) ∧ ExIn w ad (i + 1) r
end
theorem ExIn.get {w : World} {ad : Option Addr} : ∀ {l : List Ex} {i j : Nat} {x : Ex}, ExIn w ad i l → l[j]? = some x → KidAt w ad (i + j) x ∧ x.In w
 | [], _, _, _, _, h => by simp at h
 | y :: r, i, 0, x, h, hx => by
  simp at hx
  subst hx
  unfold ExIn at h
  exact h.1
 | y :: r, i, j + 1, x, h, hx => by
  unfold ExIn at h
  have := ExIn.get h.2 (j := j) (by simpa using hx)
  rw [show i + (j + 1) = i + 1 + j by omega]
  exact this
theorem ExIn.of {w : World} {ad : Option Addr} : ∀ {l : List Ex} {i : Nat}, (∀ j x, l[j]? = some x → KidAt w ad (i + j) x ∧ x.In w) → ExIn w ad i l
 | [], _, _ => by unfold ExIn; trivial
 | y :: r, i, h => by
  unfold ExIn
  exact ⟨by simpa using h 0 y rfl, ExIn.of (fun j x hx => by
   have := h (j + 1) x (by simpa using hx)
   rwa [show i + (j + 1) = i + 1 + j by omega] at this)⟩
theorem Ex.In.caps {w : World} {x : Ex} (h : x.In w) : x.ks.length ≤ x.cap ∧ x.cap ≤ maxLen := by
 cases x; unfold Ex.In at h; exact h.1
theorem Ex.In.kids {w : World} {x : Ex} (h : x.In w) : ExIn w x.at' 0 x.ks := by
 cases x; unfold Ex.In at h; exact h.2
theorem Ex.In.kid {w : World} {x : Ex} (h : x.In w) {j : Nat} {y : Ex} (hy : x.ks[j]? = some y) : y.In w ∧ ∃ b off, x.at' = some ⟨b, off, none⟩ ∧ b < w.heap.size ∧ w.cell? ⟨b, off + j * 3, none⟩ = some (.int .i64 y.op) ∧ w.cell? ⟨b, off + j * 3 + 1, none⟩ = some (.int .i64 y.n) ∧ w.cell? ⟨b, off + j * 3 + 2, none⟩ = some (.slice y.at' y.ks.length y.cap) := by
 obtain ⟨⟨b, off, e, c0, c1, c2⟩, h2⟩ := h.kids.get hy
 rw [Nat.zero_add] at c0 c1 c2
 exact ⟨h2, b, off, e, World.block_lt_of_cell? w _ c0, c0, c1, c2⟩
theorem Ex.In.len {w : World} {x : Ex} (h : x.In w) : x.ks.length ≤ 9223372036854775807 := by
 have := h.caps; unfold maxLen at this; omega
theorem KidAt.step {w w1 : World} {ad : Option Addr} {i : Nat} {x : Ex} (h : KidAt w ad i x) (hb : Below w.heap.size w w1) : KidAt w1 ad i x := by
 obtain ⟨b, off, e, c0, c1, c2⟩ := h
 have hl := World.block_lt_of_cell? w _ c0
 exact ⟨b, off, e, (hb.cell (p := ⟨b, off + i * 3, none⟩) hl).trans c0, (hb.cell (p := ⟨b, off + i * 3 + 1, none⟩) hl).trans c1, (hb.cell (p := ⟨b, off + i * 3 + 2, none⟩) hl).trans c2⟩
mutual
theorem Ex.In.step {w w1 : World} (hb : Below w.heap.size w w1) : ∀ {x : Ex}, x.In w → x.In w1
 | .node _ _ _ _ ks, h => by
  unfold Ex.In at h ⊢
  exact ⟨h.1, ExIn.step hb h.2⟩
theorem ExIn.step {w w1 : World} (hb : Below w.heap.size w w1) {ad : Option Addr} : ∀ {i : Nat} {l : List Ex}, ExIn w ad i l → ExIn w1 ad i l
 | _, [], _ => by unfold ExIn; trivial
 | i, x :: r, h => by
  unfold ExIn at h ⊢
  exact ⟨⟨h.1.1.step hb, Ex.In.step hb h.1.2⟩, ExIn.step hb h.2⟩
end
/-! How many nodes, how deep; which are well-formed. -/
mutual
def Ex.size : Ex → Nat | .node _ _ _ _ ks => 1 + szL ks
def szL : List Ex → Nat
 | [] => 0
 | x :: r => x.size + szL r
end
mutual
def Ex.depth : Ex → Nat | .node _ _ _ _ ks => 1 + dpL ks
def dpL : List Ex → Nat
 | [] => 0
 | x :: r => max x.depth (dpL r)
end
def inE (n lo hi : Int) : Bool := decide (lo ≤ n) && decide (n ≤ hi)
/-- Is a node well-formed, without its kids? -/
def nodeB (op n : Int) (k : Nat) : Bool :=
 if op = 1 then decide (k = 0) && inE n 0 999999999
 else if op = 2 then decide (k = 0) && inE n 0 1000000000
 else if op = 3 then decide (k = 0) && inE n 1 4
 else if op = 15 then decide (k = 1) && decide (n = 0)
 else if op = 10 then decide (k = 3) && decide (n = 0)
 else inE op 4 14 && (decide (k = 2) && decide (n = 0))
mutual
def Ex.ok : Ex → Bool | .node op n _ _ ks => nodeB op n ks.length && okL ks
def okL : List Ex → Bool
 | [] => true
 | x :: r => x.ok && okL r
end
def validE (x : Ex) : Bool := x.ok && (decide (x.depth ≤ 30) && decide (x.size ≤ 200))
theorem Ex.size_eq (x : Ex) : x.size = 1 + szL x.ks := by cases x; simp only [Ex.size, Ex.ks]
theorem Ex.depth_eq (x : Ex) : x.depth = 1 + dpL x.ks := by cases x; simp only [Ex.depth, Ex.ks]
theorem Ex.ok_eq (x : Ex) : x.ok = (nodeB x.op x.n x.ks.length && okL x.ks) := by cases x; simp only [Ex.ok, Ex.ks, Ex.op, Ex.n]
theorem Ex.size_pos (x : Ex) : 1 ≤ x.size := by rw [x.size_eq]; omega
theorem szL_append (l m : List Ex) : szL (l ++ m) = szL l + szL m := by
 induction l with
 | nil => simp [szL]
 | cons x r ih => simp only [List.cons_append, szL, ih]; omega
theorem dpL_append (l m : List Ex) : dpL (l ++ m) = max (dpL l) (dpL m) := by
 induction l with
 | nil => simp [dpL]
 | cons x r ih => simp only [List.cons_append, dpL, ih]; omega
theorem okL_append (l m : List Ex) : okL (l ++ m) = (okL l && okL m) := by
 induction l with
 | nil => simp [okL]
 | cons x r ih => simp only [List.cons_append, okL, ih, Bool.and_assoc]
theorem take_snocE {l : List Ex} {k : Nat} {x : Ex} (h : l[k]? = some x) : l.take (k + 1) = l.take k ++ [x] := by
 obtain ⟨hk, e⟩ := List.getElem?_eq_some_iff.1 h
 rw [List.take_succ_eq_append_getElem hk, e]
theorem szL_take {l : List Ex} {k : Nat} {x : Ex} (h : l[k]? = some x) : szL (l.take (k + 1)) = szL (l.take k) + x.size := by
 rw [take_snocE h, szL_append]; simp [szL]
theorem dpL_take {l : List Ex} {k : Nat} {x : Ex} (h : l[k]? = some x) : dpL (l.take (k + 1)) = max (dpL (l.take k)) x.depth := by
 rw [take_snocE h, dpL_append]; simp [dpL]
theorem okL_take {l : List Ex} {k : Nat} {x : Ex} (h : l[k]? = some x) : okL (l.take (k + 1)) = (okL (l.take k) && x.ok) := by
 rw [take_snocE h, okL_append]; simp [okL]
theorem szL_mem {l : List Ex} {k : Nat} {x : Ex} (h : l[k]? = some x) : szL (l.take k) + x.size ≤ szL l := by
 rw [← szL_take h]
 conv => rhs; rw [← List.take_append_drop (k + 1) l, szL_append]
 omega
theorem dpL_mem {l : List Ex} {k : Nat} {x : Ex} (h : l[k]? = some x) : x.depth ≤ dpL l := by
 have h1 := dpL_take h
 have h2 : dpL (l.take (k + 1)) ≤ dpL l := by
  conv => rhs; rw [← List.take_append_drop (k + 1) l, dpL_append]
  omega
 omega
theorem okL_mem {l : List Ex} {k : Nat} {x : Ex} (h : l[k]? = some x) (ho : okL l = true) : x.ok = true := by
 have h1 := okL_take h
 rw [← List.take_append_drop (k + 1) l, okL_append, Bool.and_eq_true] at ho
 rw [ho.1] at h1
 have := h1.symm
 rw [Bool.and_eq_true] at this
 exact this.2
/-- Well-formed, not too deep, not too large. -/
def fitsE (x : Ex) (lv : Nat) (left : Int) : Bool := x.ok && (decide (x.depth ≤ lv) && decide ((x.size : Int) ≤ left))
theorem validE_fits (x : Ex) : validE x = fitsE x 30 200 := by
 unfold validE fitsE
 congr 2
 simp; omega
theorem inE_iff {n lo hi : Int} : inE n lo hi = true ↔ lo ≤ n ∧ n ≤ hi := by unfold inE; simp
theorem inE_no {n lo hi : Int} : inE n lo hi = false ↔ ¬ (lo ≤ n ∧ n ≤ hi) := by rw [← Bool.not_eq_true, inE_iff]
/-! Types: 0 is none. -/
def tyOp (op : Int) (a b c : Int) : Int :=
 if op = 1 ∨ op = 3 then 1
 else if op = 2 then 2
 else if op = 4 ∨ op = 5 ∨ op = 8 ∨ op = 9 then (if a = b ∧ a ≠ 3 then a else 0)
 else if op = 6 then (if a = 1 ∧ b = 1 then 1 else if a = 2 ∧ b = 1 ∨ a = 1 ∧ b = 2 then 2 else 0)
 else if op = 7 then (if b = 1 ∧ a ≠ 3 then a else 0)
 else if op = 11 ∨ op = 12 then (if a = b ∧ a ≠ 3 then 3 else 0)
 else if op = 13 ∨ op = 14 then (if a = 3 ∧ b = 3 then 3 else 0)
 else if op = 15 then (if a = 3 then 3 else 0)
 else if op = 10 then (if a = 3 ∧ b = c then b else 0)
 else 0
mutual
def Ex.ty : Ex → Int | .node op _ _ _ ks => let ts := tyL ks; if ts.any (fun t => decide (t = 0)) then 0 else tyOp op (ts.getD 0 0) (ts.getD 1 0) (ts.getD 2 0)
def tyL : List Ex → List Int
 | [] => []
 | x :: r => x.ty :: tyL r
end
theorem tyL_map (l : List Ex) : tyL l = l.map Ex.ty := by
 induction l with
 | nil => simp [tyL]
 | cons x r ih => simp [tyL, ih]
theorem Ex.ty_eq (x : Ex) : x.ty = if (x.ks.map Ex.ty).any (fun t => decide (t = 0)) = true then 0 else tyOp x.op ((x.ks.map Ex.ty).getD 0 0) ((x.ks.map Ex.ty).getD 1 0) ((x.ks.map Ex.ty).getD 2 0) := by
 cases x; simp only [Ex.ty, Ex.ks, Ex.op, tyL_map]; rfl
theorem tyOp_range {op a b c : Int} (ha : 0 ≤ a ∧ a ≤ 3) (hb : 0 ≤ b ∧ b ≤ 3) : 0 ≤ tyOp op a b c ∧ tyOp op a b c ≤ 3 := by
 unfold tyOp
 (repeat' split) <;> omega
mutual
theorem Ex.ty_range : ∀ x : Ex, 0 ≤ x.ty ∧ x.ty ≤ 3
 | .node op _ _ _ ks => by
  simp only [Ex.ty]
  split
  ·
   omega
  ·
   have h := tyL_range ks
   have g : ∀ i, 0 ≤ (tyL ks).getD i 0 ∧ (tyL ks).getD i 0 ≤ 3 := fun i => by
    by_cases hi : i < (tyL ks).length
    ·
     rw [List.getD_eq_getElem?_getD, List.getElem?_eq_getElem hi, Option.getD_some]
     exact h _ (List.getElem_mem hi)
    ·
     rw [List.getD_eq_getElem?_getD, List.getElem?_eq_none (Nat.le_of_not_lt hi)]; simp
   exact tyOp_range (g 0) (g 1)
theorem tyL_range : ∀ (l : List Ex), ∀ t ∈ tyL l, 0 ≤ t ∧ t ≤ 3
 | [], t, h => by simp [tyL] at h
 | x :: r, t, h => by
  simp only [tyL, List.mem_cons] at h
  rcases h with rfl | h
  ·
   exact Ex.ty_range x
  ·
   exact tyL_range r t h
end
end
section
set_option linter.unusedSimpArgs false
set_option linter.unusedVariables false
open Go.RowKit
def I64 (n : Int) : Prop := -9223372036854775808 ≤ n ∧ n ≤ 9223372036854775807
mutual
def Ex.Wf : Ex → Prop | .node op n _ _ ks => (I64 op ∧ I64 n) ∧ ExWf ks
def ExWf : List Ex → Prop
 | [] => True
 | x :: r => x.Wf ∧ ExWf r
end
theorem Ex.Wf.head {x : Ex} (h : x.Wf) : I64 x.op ∧ I64 x.n := by cases x; unfold Ex.Wf at h; exact h.1
theorem ExWf.get : ∀ {l : List Ex} {j : Nat} {x : Ex}, ExWf l → l[j]? = some x → x.Wf
 | [], _, _, _, h => by simp at h
 | y :: r, 0, x, h, hx => by
  simp at hx
  subst hx
  unfold ExWf at h
  exact h.1
 | y :: r, j + 1, x, h, hx => by
  unfold ExWf at h
  exact ExWf.get h.2 (j := j) (by simpa using hx)
theorem ExWf.of : ∀ {l : List Ex}, (∀ x ∈ l, x.Wf) → ExWf l
 | [], _ => by unfold ExWf; trivial
 | y :: r, h => by
  unfold ExWf
  exact ⟨h y (by simp), ExWf.of (fun x hx => h x (by simp [hx]))⟩
theorem Ex.Wf.kids {x : Ex} (h : x.Wf) : ExWf x.ks := by cases x; unfold Ex.Wf at h; exact h.2
/-- A rate. -/
structure RateV where
 id : Int
 lv : Int
 kd : Int
 fr : Int
 un : Int
 ls : Int
 ms : Int
 ar : Int
 kn : Int
 kk : Int
 wh : Ex
 pr : Ex
def RateV.cells (x : RateV) : List Value := [.int .i64 x.id, .int .i64 x.lv, .int .i64 x.kd, .int .i64 x.fr, .int .i64 x.un, .int .i64 x.ls, .int .i64 x.ms, .int .i64 x.ar, .int .i64 x.kn, .int .i64 x.kk,
 .int .i64 x.wh.op, .int .i64 x.wh.n, .slice x.wh.at' x.wh.ks.length x.wh.cap, .int .i64 x.pr.op, .int .i64 x.pr.n, .slice x.pr.at' x.pr.ks.length x.pr.cap]
def RateV.val (x : RateV) : Value := .agg #[.int .i64 x.id, .int .i64 x.lv, .int .i64 x.kd, .int .i64 x.fr, .int .i64 x.un, .int .i64 x.ls, .int .i64 x.ms, .int .i64 x.ar, .int .i64 x.kn, .int .i64 x.kk,
 .int .i64 x.wh.op, .int .i64 x.wh.n, .slice x.wh.at' x.wh.ks.length x.wh.cap, .int .i64 x.pr.op, .int .i64 x.pr.n, .slice x.pr.at' x.pr.ks.length x.pr.cap]
def RateV.In (w : World) (x : RateV) : Prop := x.wh.In w ∧ x.pr.In w
def RateV.Wf (x : RateV) : Prop := (I64 x.id ∧ I64 x.lv ∧ I64 x.kd ∧ I64 x.fr ∧ I64 x.un ∧ I64 x.ls ∧ I64 x.ms ∧ I64 x.ar ∧ I64 x.kn ∧ I64 x.kk) ∧ x.wh.Wf ∧ x.pr.Wf
theorem RateV.In.step {w w1 : World} {x : RateV} (h : x.In w) (hb : Below w.heap.size w w1) : x.In w1 := ⟨Ex.In.step hb h.1, Ex.In.step hb h.2⟩
/-- The slice at a holds the rates l. -/
def SlR (w : World) (a : Option Addr) (n : Nat) (l : List RateV) : Prop :=
 l.length = n ∧ ∀ i x, l[i]? = some x → x.In w ∧ ∃ b off, a = some ⟨b, off, none⟩ ∧ ∀ j v, x.cells[j]? = some v → w.cell? ⟨b, off + i * 16 + j, none⟩ = some v
theorem SlR.nil (w : World) (a : Option Addr) : SlR w a 0 [] := ⟨rfl, fun i x h => by simp at h⟩
theorem SlR.step {w w1 : World} {a : Option Addr} {n : Nat} {l : List RateV} (h : SlR w a n l) (hb : Below w.heap.size w w1) : SlR w1 a n l := by
 refine ⟨h.1, fun i x hx => ?_⟩
 obtain ⟨hi, b, off, ha, h1⟩ := h.2 i x hx
 exact ⟨hi.step hb, b, off, ha, fun j v hj => (hb.cell (p := ⟨b, off + i * 16 + j, none⟩) (World.block_lt_of_cell? w _ (h1 j v hj))).trans (h1 j v hj)⟩
theorem SlR.get {w : World} {a : Option Addr} {n : Nat} {l : List RateV} (h : SlR w a n l) {i : Nat} (hi : i < n) :
  ∃ (x : RateV) (b off : Nat), Hid (l[i]? = some x) ∧ a = some ⟨b, off, none⟩ ∧ b < w.heap.size ∧ Hid (x.In w) ∧ Hid (∀ j v, x.cells[j]? = some v → w.cell? ⟨b, off + i * 16 + j, none⟩ = some v) := by
 have hl := h.1
 have hx : l[i]? = some (l[i]'(by omega)) := List.getElem?_eq_getElem (by omega)
 obtain ⟨hin, b, off, ha, h1⟩ := h.2 i _ hx
 exact ⟨_, b, off, hx, ha, World.block_lt_of_cell? w _ (h1 0 _ rfl), hin, h1⟩
end
section
set_option linter.unusedSimpArgs false
set_option linter.unusedVariables false
open Go.RowKit
/-- A node without kids; one whose kids lie at the beginning of block B. -/
abbrev lf (op n : Int) : Ex := .node op n none 0 []
abbrev nd (op : Int) (B : Nat) (ks : List Ex) : Ex := .node op 0 (some ⟨B, 0, none⟩) ks.length ks
theorem lf_in (op n : Int) (w : World) : (lf op n).In w := by
 unfold Ex.In
 exact ⟨⟨Nat.le_refl _, by unfold maxLen; omega⟩, by unfold ExIn; trivial⟩
theorem flat_at : ∀ (ks : List Ex) (j : Nat) (x : Ex) (i : Nat), ks[j]? = some x → i < 3 → (ks.flatMap Ex.cells)[j * 3 + i]? = x.cells[i]?
 | [], j, x, i, h, _ => by simp at h
 | y :: r, 0, x, i, h, hi => by
  simp at h
  subst h
  rw [List.flatMap_cons, List.getElem?_append_left (by simp [Ex.cells]; omega)]
  simp
 | y :: r, j + 1, x, i, h, hi => by
  have ih := flat_at r j x i (by simpa using h) hi
  rw [List.flatMap_cons, List.getElem?_append_right (by simp [Ex.cells]; omega), ← ih]
  congr 1
  simp [Ex.cells]; omega
/-- Expressions that lie in a block. -/
theorem exs_row {W : World} {B : Nat} {cs : List Value} (h : Row W B cs) (ks : List Ex) (hcs : cs = ks.flatMap Ex.cells) (hk : ∀ x ∈ ks, x.In W) : ExIn W (some ⟨B, 0, none⟩) 0 ks := by
 refine ExIn.of fun j x hx => ⟨⟨B, 0, rfl, ?_, ?_, ?_⟩, hk x (List.mem_of_getElem? hx)⟩
 ·
  have := flat_at ks j x 0 hx (by omega)
  refine h.cell _ ?_
  rw [hcs, show 0 + (0 + j) * 3 = j * 3 + 0 by omega, this]; rfl
 ·
  have := flat_at ks j x 1 hx (by omega)
  refine h.cell _ ?_
  rw [hcs, show 0 + (0 + j) * 3 + 1 = j * 3 + 1 by omega, this]; rfl
 ·
  have := flat_at ks j x 2 hx (by omega)
  refine h.cell _ ?_
  rw [hcs, show 0 + (0 + j) * 3 + 2 = j * 3 + 2 by omega, this]; rfl
theorem nd_row {W : World} {B : Nat} {cs : List Value} (h : Row W B cs) (op : Int) (ks : List Ex) (hcs : cs = ks.flatMap Ex.cells) (hk : ∀ x ∈ ks, x.In W) (hl : ks.length ≤ 1000) : (nd op B ks).In W := by
 unfold Ex.In
 exact ⟨⟨Nat.le_refl _, by unfold maxLen; omega⟩, exs_row h ks hcs hk⟩
theorem nd_new {W : World} (op : Int) (ks : List Ex) (cs : Array Value) (T : TypeId) {B : Nat} (hB : B = W.heap.size) (hcs : cs.toList = ks.flatMap Ex.cells) (hk : ∀ x ∈ ks, x.In W) (hl : ks.length ≤ 1000) : (nd op B ks).In (W.alloc (.cells cs T)) := by
 subst hB
 have hr : Row (W.alloc (.cells cs T)) W.heap.size cs.toList := by simpa using Row.new' W cs.toList T rfl
 exact nd_row hr op ks hcs (fun x hx => (hk x hx).step ((Below.refl _ W).alloc (Nat.le_refl _) _)) hl
theorem flatR_at : ∀ (l : List RateV) (j : Nat) (x : RateV) (i : Nat), l[j]? = some x → i < 16 → (l.flatMap RateV.cells)[j * 16 + i]? = x.cells[i]?
 | [], j, x, i, h, _ => by simp at h
 | y :: r, 0, x, i, h, hi => by
  simp at h
  subst h
  rw [List.flatMap_cons, List.getElem?_append_left (by simp [RateV.cells]; omega)]
  simp
 | y :: r, j + 1, x, i, h, hi => by
  have ih := flatR_at r j x i (by simpa using h) hi
  rw [List.flatMap_cons, List.getElem?_append_right (by simp [RateV.cells]; omega), ← ih]
  congr 1
  simp [RateV.cells]; omega
theorem slr_row {W : World} {B : Nat} {cs : List Value} (h : Row W B cs) (l : List RateV) (hcs : cs = l.flatMap RateV.cells) (hl : ∀ x ∈ l, x.In W) (n : Nat) (hn : l.length = n) : SlR W (some ⟨B, 0, none⟩) n l := by
 refine ⟨hn, fun i x hx => ⟨hl x (List.mem_of_getElem? hx), B, 0, rfl, fun j v hj => ?_⟩⟩
 have hj16 : j < 16 := (List.getElem?_eq_some_iff.1 hj).1
 refine h.cell _ ?_
 rw [hcs, show 0 + i * 16 + j = i * 16 + j by omega, flatR_at l i x j hx hj16]
 exact hj
theorem slr_new {W : World} (l : List RateV) (cs : Array Value) (T : TypeId) {B : Nat} (hB : B = W.heap.size) (hcs : cs.toList = l.flatMap RateV.cells) (hl : ∀ x ∈ l, x.In W) (n : Nat) (hn : l.length = n) : SlR (W.alloc (.cells cs T)) (some ⟨B, 0, none⟩) n l := by
 subst hB
 have hr : Row (W.alloc (.cells cs T)) W.heap.size cs.toList := by simpa using Row.new' W cs.toList T rfl
 exact slr_row hr l hcs (fun x hx => (hl x hx).step ((Below.refl _ W).alloc (Nat.le_refl _) _)) n hn
theorem nd_row1 {W : World} {B : Nat} {cs : List Value} (h : Row W B cs) (op : Int) (x : Ex) (hcs : cs = [x].flatMap Ex.cells) (hx : x.In W) : (nd op B [x]).In W :=
 nd_row h op [x] hcs (fun y hy => by simp at hy; subst hy; exact hx) (by simp)
theorem nd_row2 {W : World} {B : Nat} {cs : List Value} (h : Row W B cs) (op : Int) (x y : Ex) (hcs : cs = [x, y].flatMap Ex.cells) (hx : x.In W) (hy : y.In W) : (nd op B [x, y]).In W :=
 nd_row h op [x, y] hcs (fun z hz => by simp at hz; rcases hz with rfl | rfl <;> assumption) (by simp)
end
end Go.Proofs.Ytcmodmchnokmgaa
