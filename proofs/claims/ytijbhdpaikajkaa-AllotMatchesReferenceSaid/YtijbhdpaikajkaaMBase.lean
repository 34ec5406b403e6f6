/-
  Texts built as one: XBase, XBase2, XSlice, XSortA, XSortB, XOwnI, XOwnV, XTopA, XTopO, XTopR, XWorstP, XAltP, XAltQ.
-/
import Derived.WalkKit
import Derived.WalkSpells
import Derived.WalkLawsBesides
import Derived.Deep.QuietTactic
import Derived.BigQuiet
import Derived.Handy
import Derived.Laws.EntriesVeiled
import Derived.Lib.Hide
import Derived.Maps.AppendAt
import Derived.Test.YtijbhdpaikajkaaRows
import Derived.Laws.AppendOwn
namespace Go.Proofs.Ytijbhdpaikajkaa

section
set_option linter.unusedSimpArgs false
set_option linter.unusedVariables false
open Go.RowKit

@[simp] theorem size_drewN (w : World) (n : Nat) : (w.drewN n).heap.size = w.heap.size := rfl

/-- Behind a callee of which 'Below' is known. -/
theorem below_step {B : Nat} {a W w1 : World} (h : Below B a W) (hb : Below W.heap.size W w1) (hB : B ≤ W.heap.size) : Below B a w1 :=
  h.trans (hb.mono hB)

theorem bcell {W w1 : World} (hb : Below W.heap.size W w1) : (∀ b o, b < W.heap.size → w1.cell? ⟨b, o, none⟩ = W.cell? ⟨b, o, none⟩) ∧ (∀ b o, b < W.heap.size → w1.frozen? ⟨b, o, none⟩ = W.frozen? ⟨b, o, none⟩) :=
  ⟨fun b o h => hb.cell (p := ⟨b, o, none⟩) h, fun b o h => hb.frozen (p := ⟨b, o, none⟩) h⟩

/-- 'Below' behind a name that no tactic opens. -/
def Bw (B : Nat) (w w' : World) : Prop := Below B w w'
theorem Bw.out {B : Nat} {w w' : World} (h : Bw B w w') : Below B w w' := h

theorem ret_int {k : IntKind} {a b : Int} (h : a = b) : Ending.returned (.int k a) = .returned (.int k b) := by rw [h]
theorem ret_bool {a b : Bool} (h : a = b) : Ending.returned (.bool a) = .returned (.bool b) := by rw [h]

/-- Block b holds the cells cs, and nothing of it is frozen. -/
def Row (w : World) (b : Nat) (cs : List Value) : Prop := ∃ T, w.heap[b]? = some (.cells cs.toArray T (0, 0))

theorem Row.lt {w : World} {b : Nat} {cs : List Value} (h : Row w b cs) : b < w.heap.size := by
  obtain ⟨_, h⟩ := h
  exact (Array.getElem?_eq_some_iff.1 h).1
theorem Row.cell {w : World} {b : Nat} {cs : List Value} (h : Row w b cs) (i : Nat) {v : Value} (hv : cs[i]? = some v) : w.cell? ⟨b, i, none⟩ = some v := by
  obtain ⟨_, h⟩ := h
  simp [World.cell?, h, hv]
theorem Row.frozen {w : World} {b : Nat} {cs : List Value} (h : Row w b cs) (i : Nat) : w.frozen? ⟨b, i, none⟩ = false := by
  obtain ⟨_, h⟩ := h
  simp [World.frozen?, h]
theorem Row.new' {b : Nat} (w : World) (cs : List Value) (T : TypeId) (hb : b = w.heap.size) : Row (w.alloc (.cells cs.toArray T)) b cs := by
  subst hb
  exact ⟨T, by show (w.heap.push _)[w.heap.size]? = _; simp⟩
theorem Row.of_block {w w' : World} {b : Nat} {cs : List Value} (h : Row w b cs) (e : w'.heap[b]? = w.heap[b]?) : Row w' b cs := by
  obtain ⟨T, h⟩ := h
  exact ⟨T, e.trans h⟩
theorem Row.alloc {w : World} {b : Nat} {cs : List Value} (h : Row w b cs) (o : Obj) : Row (w.alloc o) b cs := h.of_block (Below.heap_alloc _ _ _ h.lt)
theorem Row.drew {w : World} {b : Nat} {cs : List Value} (h : Row w b cs) : Row w.drew b cs := h
theorem Row.drewN {w : World} {b : Nat} {cs : List Value} (h : Row w b cs) (n : Nat) : Row (w.drewN n) b cs := h
theorem Row.step {W w1 : World} {b : Nat} {cs : List Value} (h : Row W b cs) (hb : Below W.heap.size W w1) : Row w1 b cs := h.of_block (hb.block b h.lt)
theorem Row.other {w : World} {b : Nat} {cs : List Value} (h : Row w b cs) {a : Addr} (ha : b ≠ a.block) (v : Value) : Row (w.setCell a v) b cs := h.of_block (Below.heap_setCell _ _ _ _ ha)
/-- What was there at the head reads so still. -/
theorem Row.below {w w1 : World} {B b : Nat} {cs : List Value} (h : Row w b cs) (hb : Below B w w1) (hlt : b < B) : Row w1 b cs := h.of_block (hb.block b hlt)

theorem bw_alloc {a W : World} (h : Below a.heap.size a W) (o : Obj) : Below a.heap.size a (W.alloc o) := h.alloc h.size o
theorem bw_step {a W w1 : World} (h : Below a.heap.size a W) (hb : Below W.heap.size W w1) : Below a.heap.size a w1 := h.trans (hb.mono h.size)

end

section
set_option linter.unusedSimpArgs false
set_option linter.unusedVariables false
open Go.RowKit

theorem bsize {W w1 : World} (hb : Below W.heap.size W w1) : ∀ b, b < W.heap.size → b < w1.heap.size := fun b h => Nat.lt_of_lt_of_le h hb.size
theorem Row.set2 {w : World} {b : Nat} {x0 x1 : Value} (h : Row w b [x0, x1]) (v0 v1 : Value) : Row ((w.setCell ⟨b, 0, none⟩ v0).setCell ⟨b, 1, none⟩ v1) b [v0, v1] := by
  obtain ⟨T, h⟩ := h
  refine ⟨T, ?_⟩
  simp [World.setCell, Array.getElem?_modify, h]
theorem Row.set2' {w : World} {b : Nat} (h : ∃ x0 x1, Row w b [x0, x1]) (v0 v1 : Value) : Row ((w.setCell ⟨b, 0, none⟩ v0).setCell ⟨b, 1, none⟩ v1) b [v0, v1] := by
  obtain ⟨x0, x1, h⟩ := h
  exact h.set2 v0 v1

end

section
set_option linter.unusedSimpArgs false
set_option linter.unusedVariables false
open Go.RowKit

/-- The slice of length n at address a holds the ints zs. -/
def SlI (w : World) (a : Option Addr) (n : Nat) (zs : List Int) : Prop :=
  zs.length = n ∧ ∀ i, i < n → ∃ b off, a = some ⟨b, off, none⟩ ∧ w.cell? ⟨b, off + i, none⟩ = some (.int .i64 (zs.getD i 0))

theorem SlI.len {w : World} {a : Option Addr} {n : Nat} {zs : List Int} (h : SlI w a n zs) : zs.length = n := h.1
theorem SlI.nil (w : World) (a : Option Addr) : SlI w a 0 [] := ⟨rfl, fun i hi => absurd hi (by omega)⟩
/-- Where it is not empty: its address, and each cell. -/
theorem SlI.at {w : World} {a : Option Addr} {n : Nat} {zs : List Int} (h : SlI w a n zs) (hn : 0 < n) :
    ∃ b off, a = some ⟨b, off, none⟩ ∧ b < w.heap.size ∧ ∀ i, i < n → w.cell? ⟨b, off + i, none⟩ = some (.int .i64 (zs.getD i 0)) := by
  obtain ⟨b, off, ha, h0⟩ := h.2 0 hn
  refine ⟨b, off, ha, ?_, fun i hi => ?_⟩
  · exact World.block_lt_of_cell? w _ h0
  · obtain ⟨b', off', ha', hi'⟩ := h.2 i hi
    rw [ha] at ha'
    cases ha'
    exact hi'
theorem drop_at {l : List Int} {k : Nat} (h : k < l.length) : l.drop k = l.getD k 0 :: l.drop (k + 1) := by
  rw [List.drop_eq_getElem_cons h]; simp [List.getD, List.getElem?_eq_getElem h]
/-- One element, under a name of its own. -/
theorem SlI.get {w : World} {a : Option Addr} {n : Nat} {zs : List Int} (h : SlI w a n zs) {i : Nat} (hi : i < n) :
    ∃ b off z, a = some ⟨b, off, none⟩ ∧ b < w.heap.size ∧ w.cell? ⟨b, off + i, none⟩ = some (.int .i64 z) ∧ Hid (zs.getD i 0 = z) ∧ Hid (zs.drop i = z :: zs.drop (i + 1)) ∧ Hid (z ∈ zs) := by
  obtain ⟨b, off, ha, hb, hc⟩ := h.at (by omega)
  have hl := h.1
  refine ⟨b, off, zs.getD i 0, ha, hb, hc i hi, rfl, drop_at (by omega), ?_⟩
  show zs.getD i 0 ∈ zs
  simp [List.getD, List.getElem?_eq_getElem (show i < zs.length by omega)]
theorem SlI.below {w w1 : World} {a : Option Addr} {n : Nat} {zs : List Int} (h : SlI w a n zs) (hb : Below w.heap.size w w1) : SlI w1 a n zs := by
  refine ⟨h.1, fun i hi => ?_⟩
  obtain ⟨b, off, ha, hc⟩ := h.2 i hi
  exact ⟨b, off, ha, (hb.cell (p := ⟨b, off + i, none⟩) (World.block_lt_of_cell? w _ hc)).trans hc⟩
theorem SlI.of {w : World} {b off n : Nat} {zs : List Int} (hl : zs.length = n) (h : ∀ i, i < n → w.cell? ⟨b, off + i, none⟩ = some (.int .i64 (zs.getD i 0))) : SlI w (some ⟨b, off, none⟩) n zs :=
  ⟨hl, fun i hi => ⟨b, off, rfl, h i hi⟩⟩
/-- A block of the call's own, read from its beginning. -/
theorem SlI.row {w : World} {b n : Nat} {zs : List Int} {rest : List Value} (h : Row w b (zs.map (Value.int .i64) ++ rest)) (hl : zs.length = n) : SlI w (some ⟨b, 0, none⟩) n zs :=
  SlI.of hl fun i hi => h.cell (0 + i) (by
    rw [Nat.zero_add, List.getElem?_append_left (by simp; omega), List.getElem?_map, List.getElem?_eq_getElem (by omega)]
    simp [List.getD, List.getElem?_eq_getElem (show i < zs.length by omega)])

end

section
set_option linter.unusedSimpArgs false
set_option linter.unusedVariables false

/-- The order of a stable sort: by the key; where the keys are equal, by the number itself. -/
def ltK (key : Int → Int) (a b : Int) : Prop := key a < key b ∨ (key a = key b ∧ a < b)
theorem ltK_trans {key : Int → Int} {a b c : Int} (h1 : ltK key a b) (h2 : ltK key b c) : ltK key a c := by unfold ltK at *; omega
theorem ltK_of_lt {key : Int → Int} {a b : Int} (h : key a < key b) : ltK key a b := Or.inl h
theorem ltK_of_not {key : Int → Int} {x y : Int} (hE : y < x) (h : ¬ key x < key y) : ltK key y x := by unfold ltK; omega
theorem ltK_irrefl {key : Int → Int} {a : Int} (h : ltK key a a) : False := by unfold ltK at h; omega

/-- Sorted between two places. -/
def SrtI (key : Int → Int) (zs : List Int) (lo hi : Nat) : Prop := ∀ i j, lo ≤ i → i < j → j < hi → ltK key (zs.getD i 0) (zs.getD j 0)
/-- What lies in the first part came earlier than what lies in the second. -/
def ErlI (zs : List Int) (a m b : Nat) : Prop := ∀ i j, a ≤ i → i < m → m ≤ j → j < b → zs.getD i 0 < zs.getD j 0

/-- zs' is zs, rearranged between two places. -/
structure Rea (zs zs' : List Int) (lo hi : Nat) : Prop where
  len : zs'.length = zs.length
  out : ∀ i, ¬ (lo ≤ i ∧ i < hi) → zs'.getD i 0 = zs.getD i 0
  mem : ∀ i, lo ≤ i → i < hi → ∃ j, lo ≤ j ∧ j < hi ∧ zs'.getD i 0 = zs.getD j 0
  perm : zs'.Perm zs

theorem Rea.refl (zs : List Int) (lo hi : Nat) : Rea zs zs lo hi := ⟨rfl, fun _ _ => rfl, fun i h1 h2 => ⟨i, h1, h2, rfl⟩, .refl _⟩
theorem Rea.trans {a b c : List Int} {lo hi : Nat} (h1 : Rea a b lo hi) (h2 : Rea b c lo hi) : Rea a c lo hi := by
  refine ⟨h2.len.trans h1.len, fun i hi => (h2.out i hi).trans (h1.out i hi), fun i l h => ?_, h2.perm.trans h1.perm⟩
  obtain ⟨j, j1, j2, e1⟩ := h2.mem i l h
  obtain ⟨k, k1, k2, e2⟩ := h1.mem j j1 j2
  exact ⟨k, k1, k2, e1.trans e2⟩
theorem Rea.mono {a b : List Int} {lo hi lo' hi' : Nat} (h : Rea a b lo hi) (h1 : lo' ≤ lo) (h2 : hi ≤ hi') : Rea a b lo' hi' := by
  refine ⟨h.len, fun i hi => h.out i (by omega), fun i l hh => ?_, h.perm⟩
  by_cases hin : lo ≤ i ∧ i < hi
  · obtain ⟨j, j1, j2, e⟩ := h.mem i hin.1 hin.2
    exact ⟨j, by omega, by omega, e⟩
  · exact ⟨i, l, hh, h.out i hin⟩

/-- Two places exchanged. -/
def sw (zs : List Int) (i j : Nat) : List Int := (zs.set i (zs.getD j 0)).set j (zs.getD i 0)
theorem sw_len (zs : List Int) (i j : Nat) : (sw zs i j).length = zs.length := by simp [sw]
theorem sw_getD {zs : List Int} {i j : Nat} (hi : i < zs.length) (hj : j < zs.length) (k : Nat) :
    (sw zs i j).getD k 0 = if k = j then zs.getD i 0 else if k = i then zs.getD j 0 else zs.getD k 0 := by
  unfold sw
  simp only [List.getD_eq_getElem?_getD, List.getElem?_set, List.length_set]
  by_cases h1 : k = j
  · subst h1; simp [hj]
  · by_cases h2 : k = i
    · subst h2; simp [hi, Ne.symm h1, h1]
    · simp [Ne.symm h1, Ne.symm h2, h1, h2]
theorem sw_perm {zs : List Int} {i j : Nat} (hi : i < zs.length) (hj : j < zs.length) : (sw zs i j).Perm zs := by
  have h := List.set_set_perm hi hj
  unfold sw
  simpa [List.getD_eq_getElem?_getD, hi, hj] using h

/-- Where a place comes from when [a, m) and [m, b) are exchanged. -/
def rotIdx (a m b i : Nat) : Nat := if a ≤ i ∧ i < a + (b - m) then i + (m - a) else if a + (b - m) ≤ i ∧ i < b then i - (b - m) else i
structure Rot (zs zs' : List Int) (a m b : Nat) : Prop where
  len : zs'.length = zs.length
  at' : ∀ i, zs'.getD i 0 = zs.getD (rotIdx a m b i) 0
  perm : zs'.Perm zs
theorem Rot.rea {zs zs' : List Int} {a m b : Nat} (h : Rot zs zs' a m b) (h1 : a ≤ m) (h2 : m ≤ b) : Rea zs zs' a b := by
  refine ⟨h.len, fun i hi => ?_, fun i l hh => ⟨rotIdx a m b i, ?_, ?_, h.at' i⟩, h.perm⟩
  · rw [h.at']; congr 1; unfold rotIdx; split
    · omega
    · split <;> omega
  · unfold rotIdx; split
    · omega
    · split <;> omega
  · unfold rotIdx; split
    · omega
    · split <;> omega
theorem Rot.same (zs : List Int) {a m b : Nat} (h : a = m ∨ m = b) : Rot zs zs a m b := by
  refine ⟨rfl, fun i => ?_, .refl _⟩
  congr 1; unfold rotIdx; split
  · omega
  · split <;> omega

/-- Two runs of equal length exchanged, place by place. -/
def swpIdx (a b n i : Nat) : Nat := if a ≤ i ∧ i < a + n then i + (b - a) else if b ≤ i ∧ i < b + n then i - (b - a) else i
structure Swp (zs zs' : List Int) (a b n : Nat) : Prop where
  len : zs'.length = zs.length
  at' : ∀ i, zs'.getD i 0 = zs.getD (swpIdx a b n i) 0
  perm : zs'.Perm zs
theorem Swp.zero (zs : List Int) (a b : Nat) : Swp zs zs a b 0 := by
  refine ⟨rfl, fun i => ?_, .refl _⟩
  congr 1; unfold swpIdx; split
  · omega
  · split <;> omega
theorem Swp.succ {zs cur : List Int} {a b k : Nat} (h : Swp zs cur a b k) (hab : a + k < b) (hb : b + k < zs.length) : Swp zs (sw cur (a + k) (b + k)) a b (k + 1) := by
  have hl := h.len
  refine ⟨(sw_len _ _ _).trans h.len, fun i => ?_, (sw_perm (by omega) (by omega)).trans h.perm⟩
  rw [sw_getD (by omega) (by omega)]
  split
  · rename_i e; subst e; rw [h.at']; congr 1; unfold swpIdx; (repeat' split) <;> omega
  · split
    · rename_i e; subst e; rw [h.at']; congr 1; unfold swpIdx; (repeat' split) <;> omega
    · rw [h.at']; congr 1; unfold swpIdx; (repeat' split) <;> omega

/-- What is still to be rotated, seen from the state at a loop's head. -/
structure RotInv (zs cur : List Int) (a m b i j : Nat) : Prop where
  len : cur.length = zs.length
  at' : ∀ k, cur.getD (rotIdx (m - i) m (m + j) k) 0 = zs.getD (rotIdx a m b k) 0
  perm : cur.Perm zs
theorem RotInv.start (zs : List Int) {a m b : Nat} (h1 : a ≤ m) (h2 : m ≤ b) : RotInv zs zs a m b (m - a) (b - m) := by
  refine ⟨rfl, fun k => ?_, .refl _⟩
  rw [show m - (m - a) = a by omega, show m + (b - m) = b by omega]
theorem RotInv.gt {zs cur nxt : List Int} {a m b i j : Nat} (h : RotInv zs cur a m b i j) (hs : Swp cur nxt (m - i) m j) (hij : j < i) (him : i ≤ m) (hj : 0 < j) : RotInv zs nxt a m b (i - j) j := by
  refine ⟨hs.len.trans h.len, fun k => ?_, hs.perm.trans h.perm⟩
  rw [hs.at', ← h.at' k]; congr 1
  unfold swpIdx rotIdx; (repeat' split) <;> omega
theorem RotInv.lt {zs cur nxt : List Int} {a m b i j : Nat} (h : RotInv zs cur a m b i j) (hs : Swp cur nxt (m - i) (m + j - i) i) (hij : i < j) (him : i ≤ m) (hi : 0 < i) : RotInv zs nxt a m b i (j - i) := by
  refine ⟨hs.len.trans h.len, fun k => ?_, hs.perm.trans h.perm⟩
  rw [hs.at', ← h.at' k]; congr 1
  unfold swpIdx rotIdx; (repeat' split) <;> omega
theorem RotInv.last {zs cur nxt : List Int} {a m b i : Nat} (h : RotInv zs cur a m b i i) (hs : Swp cur nxt (m - i) m i) (him : i ≤ m) : Rot zs nxt a m b := by
  refine ⟨hs.len.trans h.len, fun k => ?_, hs.perm.trans h.perm⟩
  rw [hs.at', ← h.at' k]; congr 1
  unfold swpIdx rotIdx; (repeat' split) <;> omega

/-- The head of the left run goes on to the right, place by place. -/
theorem Rot.right {zs cur : List Int} {a k : Nat} (h : Rot zs cur a (a + 1) (k + 1)) (hk : a ≤ k) (hl : k + 1 < zs.length) : Rot zs (sw cur k (k + 1)) a (a + 1) (k + 2) := by
  have hlen := h.len
  refine ⟨(sw_len _ _ _).trans h.len, fun i => ?_, (sw_perm (by omega) (by omega)).trans h.perm⟩
  rw [sw_getD (by omega) (by omega)]
  split
  · rename_i e; subst e; rw [h.at']; congr 1; unfold rotIdx; (repeat' split) <;> omega
  · split
    · rename_i e; subst e; rw [h.at']; congr 1; unfold rotIdx; (repeat' split) <;> omega
    · rw [h.at']; congr 1; unfold rotIdx; (repeat' split) <;> omega
/-- The head of the right run goes on to the left, place by place. -/
theorem Rot.left {zs cur : List Int} {m k : Nat} (h : Rot zs cur (k + 1) m (m + 1)) (hk : k < m) (hl : m < zs.length) : Rot zs (sw cur (k + 1) k) k m (m + 1) := by
  have hlen := h.len
  refine ⟨(sw_len _ _ _).trans h.len, fun i => ?_, (sw_perm (by omega) (by omega)).trans h.perm⟩
  rw [sw_getD (by omega) (by omega)]
  split
  · rename_i e; subst e; rw [h.at']; congr 1; unfold rotIdx; (repeat' split) <;> omega
  · split
    · rename_i e; subst e; rw [h.at']; congr 1; unfold rotIdx; (repeat' split) <;> omega
    · rw [h.at']; congr 1; unfold rotIdx; (repeat' split) <;> omega

theorem SrtI.le {key : Int → Int} {zs : List Int} {lo hi i j : Nat} (h : SrtI key zs lo hi) (h1 : lo ≤ i) (h2 : i ≤ j) (h3 : j < hi) : zs.getD i 0 = zs.getD j 0 ∨ ltK key (zs.getD i 0) (zs.getD j 0) := by
  rcases Nat.lt_or_eq_of_le h2 with h4 | h4
  · exact Or.inr (h i j h1 h4 h3)
  · exact Or.inl (by rw [h4])
/-- x ≼ y ≺ z ≼ u. -/
theorem ltK_chain {key : Int → Int} {x y z u : Int} (h1 : x = y ∨ ltK key x y) (h2 : ltK key y z) (h3 : z = u ∨ ltK key z u) : ltK key x u := by
  have a : ltK key x z := h1.elim (fun h => by rw [h]; exact h2) (fun h => ltK_trans h h2)
  exact h3.elim (fun h => by rw [← h]; exact a) (fun h => ltK_trans a h)
theorem SrtI.sub {key : Int → Int} {zs : List Int} {lo hi lo' hi' : Nat} (h : SrtI key zs lo hi) (h1 : lo ≤ lo') (h2 : hi' ≤ hi) : SrtI key zs lo' hi' := fun i j a b c => h i j (by omega) b (by omega)
theorem SrtI.congr {key : Int → Int} {zs zs' : List Int} {lo hi : Nat} (h : SrtI key zs lo hi) (e : ∀ i, lo ≤ i → i < hi → zs'.getD i 0 = zs.getD i 0) : SrtI key zs' lo hi := fun i j a b c => by
  rw [e i a (by omega), e j (by omega) c]; exact h i j a b c
theorem SrtI.shift {key : Int → Int} {zs zs' : List Int} {lo hi lo' hi' : Nat} (h : SrtI key zs lo hi) (f : Nat → Nat) (e : ∀ i, lo' ≤ i → i < hi' → zs'.getD i 0 = zs.getD (f i) 0)
    (hf : ∀ i, lo' ≤ i → i < hi' → lo ≤ f i ∧ f i < hi) (hm : ∀ i j, lo' ≤ i → i < j → j < hi' → f i < f j) : SrtI key zs' lo' hi' := fun i j a b c => by
  rw [e i a (by omega), e j (by omega) c]; exact h _ _ (hf i a (by omega)).1 (hm i j a b c) (hf j (by omega) c).2

/-- The left run is one element: behind it all that is less. -/
theorem merge_right {key : Int → Int} {zs zs' : List Int} {a b i : Nat} (h2 : SrtI key zs (a + 1) b) (hE : ErlI zs a (a + 1) b)
    (hi : a + 1 ≤ i) (hib : i ≤ b) (c1 : i = a + 1 ∨ key (zs.getD (i - 1) 0) < key (zs.getD a 0)) (c2 : i = b ∨ ¬ key (zs.getD i 0) < key (zs.getD a 0)) (hr : Rot zs zs' a (a + 1) i) :
    SrtI key zs' a b := by
  have lo : ∀ k, a + 1 ≤ k → k < i → ltK key (zs.getD k 0) (zs.getD a 0) := fun k k1 k2 => by
    rcases c1 with c1 | c1
    · omega
    · rcases h2.le k1 (show k ≤ i - 1 by omega) (by omega) with h | h
      · rw [h]; exact Or.inl c1
      · exact ltK_trans h (Or.inl c1)
  have up : ∀ k, i ≤ k → k < b → ltK key (zs.getD a 0) (zs.getD k 0) := fun k k1 k2 => by
    rcases c2 with c2 | c2
    · omega
    · have g := ltK_of_not (hE a i (by omega) (by omega) (by omega) (by omega)) c2
      rcases h2.le (show a + 1 ≤ i by omega) k1 k2 with h | h
      · rw [← h]; exact g
      · exact ltK_trans g h
  intro p q hp hpq hq
  rw [hr.at', hr.at']
  have e1 : rotIdx a (a + 1) i p = if p + 1 < i then p + 1 else if p + 1 = i then a else p := by unfold rotIdx; (repeat' split) <;> omega
  have e2 : rotIdx a (a + 1) i q = if q + 1 < i then q + 1 else if q + 1 = i then a else q := by unfold rotIdx; (repeat' split) <;> omega
  rw [e1, e2]
  by_cases p1 : p + 1 < i
  · rw [if_pos p1]
    by_cases q1 : q + 1 < i
    · rw [if_pos q1]; exact h2 _ _ (by omega) (by omega) (by omega)
    · rw [if_neg q1]
      by_cases q2 : q + 1 = i
      · rw [if_pos q2]; exact lo _ (by omega) p1
      · rw [if_neg q2]; exact h2 _ _ (by omega) (by omega) hq
  · rw [if_neg p1]
    by_cases p2 : p + 1 = i
    · rw [if_pos p2, if_neg (by omega), if_neg (by omega)]; exact up _ (by omega) hq
    · rw [if_neg p2, if_neg (by omega), if_neg (by omega)]; exact h2 _ _ (by omega) hpq hq

/-- The right run is one element: ahead of it all that is not greater. -/
theorem merge_left {key : Int → Int} {zs zs' : List Int} {a m i : Nat} (h1 : SrtI key zs a m) (hE : ErlI zs a m (m + 1))
    (hi : a ≤ i) (him : i ≤ m) (c1 : i = a ∨ ¬ key (zs.getD m 0) < key (zs.getD (i - 1) 0)) (c2 : i = m ∨ key (zs.getD m 0) < key (zs.getD i 0)) (hr : Rot zs zs' i m (m + 1)) :
    SrtI key zs' a (m + 1) := by
  have lo : ∀ k, a ≤ k → k < i → ltK key (zs.getD k 0) (zs.getD m 0) := fun k k1 k2 => by
    rcases c1 with c1 | c1
    · omega
    · have g := ltK_of_not (hE (i - 1) m (by omega) (by omega) (by omega) (by omega)) c1
      rcases h1.le k1 (show k ≤ i - 1 by omega) (by omega) with h | h
      · rw [h]; exact g
      · exact ltK_trans h g
  have up : ∀ k, i ≤ k → k < m → ltK key (zs.getD m 0) (zs.getD k 0) := fun k k1 k2 => by
    rcases c2 with c2 | c2
    · omega
    · rcases h1.le (show a ≤ i by omega) k1 k2 with h | h
      · rw [← h]; exact Or.inl c2
      · exact ltK_trans (Or.inl c2) h
  intro p q hp hpq hq
  rw [hr.at', hr.at']
  have e1 : rotIdx i m (m + 1) p = if p < i then p else if p = i then m else p - 1 := by unfold rotIdx; (repeat' split) <;> omega
  have e2 : rotIdx i m (m + 1) q = if q < i then q else if q = i then m else q - 1 := by unfold rotIdx; (repeat' split) <;> omega
  rw [e1, e2]
  by_cases q1 : q < i
  · rw [if_pos q1, if_pos (by omega)]; exact h1 _ _ hp hpq (by omega)
  · rw [if_neg q1]
    by_cases q2 : q = i
    · rw [if_pos q2, if_pos (by omega)]; exact lo _ hp (by omega)
    · rw [if_neg q2]
      by_cases p1 : p < i
      · rw [if_pos p1]; exact h1 _ _ hp (by omega) (by omega)
      · rw [if_neg p1]
        by_cases p2 : p = i
        · rw [if_pos p2]; exact up _ (by omega) (by omega)
        · rw [if_neg p2]; exact h1 _ _ (by omega) (by omega) (by omega)

/-- What the two halves are behind the rotation. -/
theorem merge_halves {key : Int → Int} {zs zs' : List Int} {a m b s e mid : Nat} (h1 : SrtI key zs a m) (h2 : SrtI key zs m b) (hE : ErlI zs a m b)
    (ha : a ≤ s) (hs : s ≤ m) (hm : m ≤ e) (he : e ≤ b) (hmid : mid + m = s + e) (hr : Rot zs zs' s m e) :
    SrtI key zs' a s ∧ SrtI key zs' s mid ∧ ErlI zs' a s mid ∧ SrtI key zs' mid e ∧ SrtI key zs' e b ∧ ErlI zs' mid e b := by
  have r1 : ∀ i, i < s → zs'.getD i 0 = zs.getD i 0 := fun i hi => by rw [hr.at']; congr 1; unfold rotIdx; (repeat' split) <;> omega
  have r2 : ∀ i, s ≤ i → i < mid → zs'.getD i 0 = zs.getD (i + (m - s)) 0 := fun i a1 a2 => by rw [hr.at']; congr 1; unfold rotIdx; (repeat' split) <;> omega
  have r3 : ∀ i, mid ≤ i → i < e → zs'.getD i 0 = zs.getD (i - (e - m)) 0 := fun i a1 a2 => by rw [hr.at']; congr 1; unfold rotIdx; (repeat' split) <;> omega
  have r4 : ∀ i, e ≤ i → zs'.getD i 0 = zs.getD i 0 := fun i a1 => by rw [hr.at']; congr 1; unfold rotIdx; (repeat' split) <;> omega
  refine ⟨(h1.sub (Nat.le_refl _) hs).congr fun i _ a2 => r1 i a2, h2.shift (fun i => i + (m - s)) (fun i a1 a2 => r2 i a1 a2) (fun i a1 a2 => by constructor <;> omega) (fun i j a1 a2 a3 => by omega), ?_,
    h1.shift (fun i => i - (e - m)) (fun i a1 a2 => r3 i a1 a2) (fun i a1 a2 => by constructor <;> omega) (fun i j a1 a2 a3 => by omega), (h2.sub hm (Nat.le_refl _)).congr fun i a1 _ => r4 i a1, ?_⟩
  · intro i j a1 a2 a3 a4
    rw [r1 i a2, r2 j a3 a4]
    exact hE _ _ a1 (by omega) (by omega) (by omega)
  · intro i j a1 a2 a3 a4
    rw [r3 i a1 a2, r4 j a3]
    exact hE _ _ (by omega) (by omega) (by omega) a4

/-- The two sorted halves together. -/
theorem merge_join {key : Int → Int} {zs z2 z3 z4 : List Int} {a m b s e mid : Nat} (h1 : SrtI key zs a m) (h2 : SrtI key zs m b) (hE : ErlI zs a m b)
    (ha : a ≤ s) (hs : s ≤ m) (hm : m ≤ e) (he : e ≤ b) (hmid : mid + m = s + e)
    (cA : s = a ∨ e = b ∨ ¬ key (zs.getD e 0) < key (zs.getD (s - 1) 0)) (cB : s = m ∨ e = m ∨ key (zs.getD (e - 1) 0) < key (zs.getD s 0))
    (hr : Rot zs z2 s m e) (r3 : Rea z2 z3 a mid) (s3 : SrtI key z3 a mid) (r4 : Rea z3 z4 mid b) (s4 : SrtI key z4 mid b) :
    SrtI key z4 a b ∧ Rea zs z4 a b := by
  have R : Rea zs z4 a b := ((hr.rea hs hm).mono ha he).trans ((r3.mono (Nat.le_refl _) (by omega)).trans (r4.mono (by omega) (Nat.le_refl _)))
  refine ⟨?_, R⟩
  have cross : ∀ p q, a ≤ p → p < mid → mid ≤ q → q < b → ltK key (z2.getD p 0) (z2.getD q 0) := by
    intro p q p1 p2 q1 q2
    have e1 : rotIdx s m e p = if p < s then p else p + (m - s) := by unfold rotIdx; (repeat' split) <;> omega
    have e2 : rotIdx s m e q = if q < e then q - (e - m) else q := by unfold rotIdx; (repeat' split) <;> omega
    rw [hr.at', hr.at', e1, e2]
    by_cases p3 : p < s
    · rw [if_pos p3]
      by_cases q3 : q < e
      · rw [if_pos q3]; exact h1 _ _ p1 (by omega) (by omega)
      · rw [if_neg q3]
        have g : ltK key (zs.getD (s - 1) 0) (zs.getD e 0) := by
          rcases cA with c | c | c
          · omega
          · omega
          · exact ltK_of_not (hE _ _ (by omega) (by omega) (by omega) (by omega)) c
        exact ltK_chain (h1.le p1 (by omega) (by omega)) g (h2.le (by omega) (by omega) q2)
    · rw [if_neg p3]
      by_cases q3 : q < e
      · rw [if_pos q3]
        have g : ltK key (zs.getD (e - 1) 0) (zs.getD s 0) := by
          rcases cB with c | c | c
          · omega
          · omega
          · exact Or.inl c
        exact ltK_chain (h2.le (by omega) (by omega) (by omega)) g (h1.le (by omega) (by omega) (by omega))
      · rw [if_neg q3]; exact h2 _ _ (by omega) (by omega) q2
  intro p q p1 pq q1
  by_cases qm : q < mid
  · rw [r4.out p (by omega), r4.out q (by omega)]; exact s3 p q p1 pq qm
  · by_cases pm : p < mid
    · obtain ⟨p', p2, p3, ep⟩ := r3.mem p p1 pm
      obtain ⟨q', q2, q3, eq⟩ := r4.mem q (by omega) q1
      rw [r4.out p (by omega), ep, eq, r3.out q' (by omega)]
      exact cross p' q' p2 p3 q2 q3
    · exact s4 p q (by omega) pq q1

/-- A list that is sorted, and one that is the same rearranged and sorted, are the same. -/
theorem srt_unique {key : Int → Int} : ∀ {a b : List Int}, a.Perm b → a.Pairwise (ltK key) → b.Pairwise (ltK key) → a = b := by
  intro a
  induction a with
  | nil => intro b h _ _; exact (List.nil_perm.1 h).symm
  | cons x r ih =>
    intro b h h1 h2
    cases b with
    | nil => exact absurd h.symm (by simp)
    | cons y s =>
      have e : x = y := by
        rcases List.mem_cons.1 (h.mem_iff.1 (List.mem_cons_self)) with hx | hx
        · exact hx
        · rcases List.mem_cons.1 (h.mem_iff.2 (List.mem_cons_self : y ∈ y :: s)) with hy | hy
          · exact hy.symm
          · exact (ltK_irrefl (ltK_trans ((List.pairwise_cons.1 h1).1 y hy) ((List.pairwise_cons.1 h2).1 x hx))).elim
      subst e
      rw [ih (List.Perm.cons_inv h) (List.pairwise_cons.1 h1).2 (List.pairwise_cons.1 h2).2]
theorem SrtI.pairwise {key : Int → Int} {zs : List Int} (h : SrtI key zs 0 zs.length) : zs.Pairwise (ltK key) := by
  rw [List.pairwise_iff_getElem]
  intro i j hi hj hij
  have := h i j (Nat.zero_le _) hij hj
  simpa [List.getD_eq_getElem?_getD, hi, hj] using this

/-- One more element has been sorted in. -/
structure Ins (key : Int → Int) (zs cur : List Int) (a i j : Nat) : Prop where
  len : cur.length = zs.length
  lo : ∀ k, k < j → cur.getD k 0 = zs.getD k 0
  up : ∀ k, i < k → cur.getD k 0 = zs.getD k 0
  here : cur.getD j 0 = zs.getD i 0
  mid : ∀ k, j < k → k ≤ i → cur.getD k 0 = zs.getD (k - 1) 0 ∧ ltK key (zs.getD i 0) (zs.getD (k - 1) 0)
  perm : cur.Perm zs
theorem Ins.start (key : Int → Int) (zs : List Int) (a i : Nat) : Ins key zs zs a i i := ⟨rfl, fun _ _ => rfl, fun _ _ => rfl, rfl, fun k h1 h2 => by omega, .refl _⟩
theorem Ins.step {key : Int → Int} {zs cur : List Int} {a i j : Nat} (h : Ins key zs cur a i (j + 1)) (hj : j + 1 ≤ i) (hi : i < zs.length) (hc : key (cur.getD (j + 1) 0) < key (cur.getD j 0)) :
    Ins key zs (sw cur (j + 1) j) a i j := by
  have hl := h.len
  have s := sw_getD (zs := cur) (i := j + 1) (j := j) (by omega) (by omega)
  refine ⟨(sw_len _ _ _).trans h.len, fun k hk => ?_, fun k hk => ?_, ?_, fun k h1 h2 => ?_, (sw_perm (by omega) (by omega)).trans h.perm⟩
  · rw [s, if_neg (by omega), if_neg (by omega)]; exact h.lo k (by omega)
  · rw [s, if_neg (by omega), if_neg (by omega)]; exact h.up k hk
  · rw [s, if_pos rfl]; exact h.here
  · by_cases e : k = j + 1
    · subst e
      rw [s, if_neg (by omega), if_pos rfl, h.lo j (by omega)]
      rw [h.here, h.lo j (by omega)] at hc
      exact ⟨rfl, Or.inl hc⟩
    · rw [s, if_neg (by omega), if_neg e]
      exact h.mid k (by omega) h2
theorem Ins.done {key : Int → Int} {zs cur : List Int} {a i j : Nat} (h : Ins key zs cur a i j) (ha : a ≤ j) (hj : j ≤ i) (hs : SrtI key zs a i) (hE : ∀ k, a ≤ k → k < i → zs.getD k 0 < zs.getD i 0)
    (hc : j = a ∨ ¬ key (cur.getD j 0) < key (cur.getD (j - 1) 0)) : SrtI key cur a (i + 1) ∧ Rea zs cur a (i + 1) := by
  constructor
  · intro p q p1 pq q1
    by_cases q2 : q < j
    · rw [h.lo p (by omega), h.lo q q2]; exact hs p q p1 pq (by omega)
    · by_cases q3 : q = j
      · subst q3
        rcases hc with hc | hc
        · omega
        · rw [h.here, h.lo (q - 1) (by omega)] at hc
          rw [h.here, h.lo p pq]
          have g := ltK_of_not (hE (q - 1) (by omega) (by omega)) hc
          rcases hs.le p1 (show p ≤ q - 1 by omega) (by omega) with e | e
          · rw [e]; exact g
          · exact ltK_trans e g
      · obtain ⟨e1, e2⟩ := h.mid q (by omega) (by omega)
        rw [e1]
        by_cases p2 : p < j
        · rw [h.lo p p2]; exact hs _ _ p1 (by omega) (by omega)
        · by_cases p3 : p = j
          · subst p3; rw [h.here]; exact e2
          · rw [(h.mid p (by omega) (by omega)).1]; exact hs _ _ (by omega) (by omega) (by omega)
  · refine ⟨h.len, fun k hk => ?_, fun k k1 k2 => ?_, h.perm⟩
    · rcases Nat.lt_or_ge k j with g | g
      · exact h.lo k g
      · exact h.up k (by omega)
    · rcases Nat.lt_trichotomy k j with g | g | g
      · exact ⟨k, k1, k2, h.lo k g⟩
      · subst g; exact ⟨i, by omega, by omega, h.here⟩
      · exact ⟨k - 1, by omega, by omega, (h.mid k g (by omega)).1⟩

end

section
set_option linter.unusedSimpArgs false
set_option linter.unusedVariables false

/-- The block of size s from place p on is sorted, and holds what stood there at the beginning. -/
structure BlkAt (key : Int → Int) (O zs : List Int) (n s p : Nat) : Prop where
  srt : SrtI key zs p (min (p + s) n)
  mem : ∀ i, p ≤ i → i < min (p + s) n → ∃ j, p ≤ j ∧ j < min (p + s) n ∧ zs.getD i 0 = O.getD j 0

theorem BlkAt.congr {key : Int → Int} {O zs zs' : List Int} {n s p : Nat} (h : BlkAt key O zs n s p) (e : ∀ i, p ≤ i → i < p + s → zs'.getD i 0 = zs.getD i 0) : BlkAt key O zs' n s p := by
  refine ⟨h.srt.congr fun i a b => e i a (by omega), fun i a b => ?_⟩
  rw [e i a (by omega)]; exact h.mem i a b
theorem BlkAt.past (key : Int → Int) (O zs : List Int) {n s p : Nat} (h : n ≤ p) : BlkAt key O zs n s p :=
  ⟨fun i j a b c => by omega, fun i a b => by omega⟩
/-- A block that has just been sorted. -/
theorem BlkAt.ins {key : Int → Int} {O zs zs' : List Int} {n s a b : Nat} (hb : b = min (a + s) n) (h0 : ∀ i, a ≤ i → zs.getD i 0 = O.getD i 0) (hr : Rea zs zs' a b) (hs : SrtI key zs' a b) : BlkAt key O zs' n s a := by
  subst hb
  refine ⟨hs, fun i h1 h2 => ?_⟩
  obtain ⟨j, j1, j2, e⟩ := hr.mem i h1 h2
  exact ⟨j, j1, j2, e.trans (h0 j j1)⟩
/-- Two blocks that have just been merged. -/
theorem BlkAt.merge {key : Int → Int} {O zs zs' : List Int} {n s a b : Nat} (hb : b = min (a + 2 * s) n) (h1 : BlkAt key O zs n s a) (h2 : BlkAt key O zs n s (a + s)) (hr : Rea zs zs' a b) (hs : SrtI key zs' a b) : BlkAt key O zs' n (2 * s) a := by
  subst hb
  refine ⟨hs, fun i g1 g2 => ?_⟩
  obtain ⟨j, j1, j2, e⟩ := hr.mem i g1 g2
  by_cases hj : j < a + s
  · obtain ⟨k, k1, k2, e2⟩ := h1.mem j j1 (by omega)
    exact ⟨k, k1, by omega, e.trans e2⟩
  · obtain ⟨k, k1, k2, e2⟩ := h2.mem j (by omega) (by omega)
    exact ⟨k, by omega, by omega, e.trans e2⟩
/-- A block without a second one beside it. -/
theorem BlkAt.alone {key : Int → Int} {O zs : List Int} {n s a : Nat} (h : BlkAt key O zs n s a) (hn : n ≤ a + s) : BlkAt key O zs n (2 * s) a := by
  have e : min (a + 2 * s) n = min (a + s) n := by omega
  exact ⟨by rw [e]; exact h.srt, by rw [e]; exact h.mem⟩
theorem BlkAt.erl {key : Int → Int} {O zs : List Int} {n s a b : Nat} (h1 : BlkAt key O zs n s a) (h2 : BlkAt key O zs n s (a + s)) (hO : ∀ i j, i < j → j < n → O.getD i 0 < O.getD j 0) (hb : b ≤ n) (hb2 : b ≤ a + s + s) :
    ErlI zs a (a + s) b := by
  intro i j g1 g2 g3 g4
  obtain ⟨p, p1, p2, e1⟩ := h1.mem i g1 (by omega)
  obtain ⟨q, q1, q2, e2⟩ := h2.mem j g3 (by omega)
  rw [e1, e2]
  exact hO p q (by omega) (by omega)

/-- While the blocks are sorted one by one. -/
structure PhI (key : Int → Int) (O zs : List Int) (n s a : Nat) : Prop where
  len : zs.length = O.length
  perm : zs.Perm O
  done : ∀ t, t * s < a → BlkAt key O zs n s (t * s)
  rest : ∀ i, a ≤ i → zs.getD i 0 = O.getD i 0
theorem PhI.start (key : Int → Int) (O : List Int) (n s : Nat) : PhI key O O n s 0 := ⟨rfl, .refl _, fun t h => by omega, fun _ _ => rfl⟩
theorem mul_lt_block {t k s : Nat} (h : t * s < k * s + s) : t ≤ k := by
  rcases Nat.lt_or_ge k t with g | g
  · have := Nat.mul_le_mul_right s (show k + 1 ≤ t by omega)
    rw [Nat.succ_mul] at this; omega
  · exact g
theorem PhI.step {key : Int → Int} {O zs zs' : List Int} {n s k b : Nat} (h : PhI key O zs n s (k * s)) (hb : b = min (k * s + s) n) (hr : Rea zs zs' (k * s) b) (hs : SrtI key zs' (k * s) b) :
    PhI key O zs' n s (k * s + s) := by
  refine ⟨hr.len.trans h.len, hr.perm.trans h.perm, fun t ht => ?_, fun i hi => ?_⟩
  · by_cases e : t = k
    · subst e; exact BlkAt.ins hb h.rest hr hs
    · have htk := mul_lt_block ht
      have := Nat.mul_le_mul_right s (show t + 1 ≤ k by omega)
      rw [Nat.succ_mul] at this
      by_cases h0 : s = 0
      · subst h0
        exact ⟨fun i j a b c => by omega, fun i a b => by omega⟩
      · exact (h.done t (by omega)).congr fun i a b => hr.out i (by omega)
  · rw [hr.out i (by omega)]; exact h.rest i (by omega)

/-- All blocks of a size are sorted. -/
structure AllB (key : Int → Int) (O zs : List Int) (n s : Nat) : Prop where
  len : zs.length = O.length
  perm : zs.Perm O
  all : ∀ t, BlkAt key O zs n s (t * s)
theorem PhI.all {key : Int → Int} {O zs : List Int} {n s a : Nat} (h : PhI key O zs n s a) (ha : n ≤ a) : AllB key O zs n s :=
  ⟨h.len, h.perm, fun t => if g : t * s < a then h.done t g else BlkAt.past _ _ _ (by omega)⟩
theorem AllB.whole {key : Int → Int} {O zs : List Int} {n s : Nat} (h : AllB key O zs n s) (hs : n ≤ s) : SrtI key zs 0 n := by
  have := (h.all 0).srt
  rwa [Nat.zero_mul, show min (0 + s) n = n by omega] at this

/-- While the blocks are merged two by two. -/
structure PhM (key : Int → Int) (O zs : List Int) (n s k : Nat) : Prop where
  len : zs.length = O.length
  perm : zs.Perm O
  done : ∀ t, t < k → BlkAt key O zs n (2 * s) (t * (2 * s))
  rest : ∀ t, 2 * k ≤ t → BlkAt key O zs n s (t * s)
theorem AllB.start {key : Int → Int} {O zs : List Int} {n s : Nat} (h : AllB key O zs n s) : PhM key O zs n s 0 := ⟨h.len, h.perm, fun t g => by omega, fun t _ => h.all t⟩
theorem PhM.first {key : Int → Int} {O zs : List Int} {n s k : Nat} (h : PhM key O zs n s k) : BlkAt key O zs n s (k * (2 * s)) ∧ BlkAt key O zs n s (k * (2 * s) + s) := by
  have a := h.rest (2 * k) (by omega)
  have b := h.rest (2 * k + 1) (by omega)
  have e1 : 2 * k * s = k * (2 * s) := by rw [Nat.mul_comm 2 k, Nat.mul_assoc]
  have e2 : (2 * k + 1) * s = k * (2 * s) + s := by rw [Nat.succ_mul, e1]
  rw [e1] at a; rw [e2] at b
  exact ⟨a, b⟩
theorem PhM.step {key : Int → Int} {O zs zs' : List Int} {n s k b : Nat} (h : PhM key O zs n s k) (hb : b = min (k * (2 * s) + 2 * s) n) (hr : Rea zs zs' (k * (2 * s)) b) (hs : SrtI key zs' (k * (2 * s)) b) :
    PhM key O zs' n s (k + 1) := by
  obtain ⟨f1, f2⟩ := h.first
  refine ⟨hr.len.trans h.len, hr.perm.trans h.perm, fun t ht => ?_, fun t ht => ?_⟩
  · by_cases e : t = k
    · subst e; exact BlkAt.merge hb f1 f2 hr hs
    · have := Nat.mul_le_mul_right (2 * s) (show t + 1 ≤ k by omega)
      rw [Nat.succ_mul] at this
      exact (h.done t (by omega)).congr fun i a c => hr.out i (by omega)
  · have := Nat.mul_le_mul_right s ht
    have e2 : 2 * (k + 1) * s = k * (2 * s) + 2 * s := by rw [show 2 * (k + 1) = (k + 1) * 2 by omega, Nat.mul_assoc, Nat.succ_mul]
    exact (h.rest t (by omega)).congr fun i a c => hr.out i (by omega)
theorem PhM.all {key : Int → Int} {O zs : List Int} {n s k : Nat} (h : PhM key O zs n s k) (hn : n ≤ k * (2 * s)) : AllB key O zs n (2 * s) := by
  refine ⟨h.len, h.perm, fun t => ?_⟩
  by_cases g : t < k
  · exact h.done t g
  · have := Nat.mul_le_mul_right (2 * s) (show k ≤ t by omega)
    exact BlkAt.past _ _ _ (by omega)
theorem PhM.last {key : Int → Int} {O zs : List Int} {n s k : Nat} (h : PhM key O zs n s k) (hn : n ≤ k * (2 * s) + s) : AllB key O zs n (2 * s) := by
  refine ⟨h.len, h.perm, fun t => ?_⟩
  by_cases g : t < k
  · exact h.done t g
  · by_cases e : t = k
    · subst e; exact h.first.1.alone hn
    · have := Nat.mul_le_mul_right (2 * s) (show k + 1 ≤ t by omega)
      rw [Nat.succ_mul] at this
      exact BlkAt.past _ _ _ (by omega)

end

section
set_option linter.unusedSimpArgs false
set_option linter.unusedVariables false
open Go.RowKit

/-- Block B holds the ints zs from its beginning on (and maybe more behind them), and nothing of it is frozen. -/
def OwnI (w : World) (B : Nat) (zs : List Int) : Prop := ∃ rest, Row w B (zs.map (Value.int .i64) ++ rest)

theorem OwnI.lt {w : World} {B : Nat} {zs : List Int} (h : OwnI w B zs) : B < w.heap.size := h.elim fun _ h => h.lt
theorem OwnI.cell {w : World} {B : Nat} {zs : List Int} (h : OwnI w B zs) {i : Nat} (hi : i < zs.length) : w.cell? ⟨B, i, none⟩ = some (.int .i64 (zs.getD i 0)) := by
  obtain ⟨rest, h⟩ := h
  refine h.cell i ?_
  rw [List.getElem?_append_left (by simpa using hi), List.getElem?_map, List.getElem?_eq_getElem hi]
  simp [List.getD, hi]
theorem OwnI.frozen {w : World} {B : Nat} {zs : List Int} (h : OwnI w B zs) (i : Nat) : w.frozen? ⟨B, i, none⟩ = false := h.elim fun _ h => h.frozen i
theorem OwnI.set {w : World} {B : Nat} {zs : List Int} (h : OwnI w B zs) {i : Nat} (hi : i < zs.length) (v : Int) : OwnI (w.setCell ⟨B, i, none⟩ (.int .i64 v)) B (zs.set i v) := by
  obtain ⟨rest, T, h⟩ := h
  refine ⟨rest, T, ?_⟩
  simp only [World.setCell, Array.getElem?_modify, h]
  simp [List.map_set, List.set_append, hi]
theorem OwnI.drewN {w : World} {B : Nat} {zs : List Int} (h : OwnI w B zs) (n : Nat) : OwnI (w.drewN n) B zs := h
theorem OwnI.drew {w : World} {B : Nat} {zs : List Int} (h : OwnI w B zs) : OwnI w.drew B zs := h
theorem OwnI.sw {w : World} {B : Nat} {zs : List Int} (h : OwnI w B zs) {i j : Nat} (hi : i < zs.length) (hj : j < zs.length) :
    OwnI ((w.setCell ⟨B, i, none⟩ (.int .i64 (zs.getD j 0))).setCell ⟨B, j, none⟩ (.int .i64 (zs.getD i 0))) B (sw zs i j) :=
  (h.set hi _).set (by simpa using hj) _
theorem OwnI.of_block {w w' : World} {B : Nat} {zs : List Int} (h : OwnI w B zs) (e : w'.heap[B]? = w.heap[B]?) : OwnI w' B zs := h.elim fun r h => ⟨r, h.of_block e⟩
theorem OwnI.step {W w1 : World} {B : Nat} {zs : List Int} (h : OwnI W B zs) (hb : Below W.heap.size W w1) : OwnI w1 B zs := h.of_block (hb.block B h.lt)
theorem OwnI.sl {w : World} {B n : Nat} {zs : List Int} (h : OwnI w B zs) (hl : zs.length = n) : SlI w (some ⟨B, 0, none⟩) n zs := h.elim fun _ h => SlI.row h hl
theorem OwnI.take {w : World} {B : Nat} {zs : List Int} (h : OwnI w B zs) (k : Nat) : OwnI w B (zs.take k) := by
  obtain ⟨rest, h⟩ := h
  refine ⟨(zs.drop k).map (Value.int .i64) ++ rest, ?_⟩
  rwa [← List.append_assoc, ← List.map_append, List.take_append_drop]

/-- Only block B turns (and new blocks may be there). -/
def Tch (B : Nat) (w w' : World) : Prop := w.grownBy w' (some B)
theorem Tch.refl (B : Nat) (w : World) : Tch B w w := World.grownBy.refl w _
theorem Tch.trans {B : Nat} {a b c : World} (h : Tch B a b) (k : Tch B b c) : Tch B a c := World.grownBy.trans h k
theorem Tch.set {B : Nat} {a w : World} (h : Tch B a w) (i : Nat) (v : Value) : Tch B a (w.setCell ⟨B, i, none⟩ v) := by
  refine h.trans ⟨rfl, rfl, rfl, by simp [World.setCell], fun k hk hne => ?_⟩
  exact Below.heap_setCell _ _ _ _ (fun e => hne (by rw [e]))
theorem Tch.drewN {B : Nat} {a w : World} (h : Tch B a w) (n : Nat) : Tch B a (w.drewN n) := h.trans ⟨rfl, rfl, rfl, Nat.le_refl _, fun _ _ _ => rfl⟩
theorem Tch.drew {B : Nat} {a w : World} (h : Tch B a w) : Tch B a w.drew := h.trans ⟨rfl, rfl, rfl, Nat.le_refl _, fun _ _ _ => rfl⟩
theorem Tch.size {B : Nat} {w w' : World} (h : Tch B w w') : w.heap.size ≤ w'.heap.size := World.grownBy.size h
theorem Tch.block {B : Nat} {w w' : World} (h : Tch B w w') {k : Nat} (hk : k < w.heap.size) (hne : k ≠ B) : w'.heap[k]? = w.heap[k]? := World.grownBy.block h k hk (by simpa using hne)
theorem Tch.cell {B : Nat} {w w' : World} (h : Tch B w w') {b o : Nat} {v : Value} (hc : w.cell? ⟨b, o, none⟩ = some v) (hne : b ≠ B) : w'.cell? ⟨b, o, none⟩ = some v := by
  have e := h.block (World.block_lt_of_cell? w _ hc) hne
  rw [← hc]; simp only [World.cell?]; rw [e]
theorem Tch.sl {B n : Nat} {w w' : World} {a : Option Addr} {zs : List Int} (h : Tch B w w') (hs : SlI w a n zs) (hne : ∀ b o, a = some ⟨b, o, none⟩ → b ≠ B) : SlI w' a n zs := by
  refine ⟨hs.1, fun i hi => ?_⟩
  obtain ⟨b, off, ha, hc⟩ := hs.2 i hi
  exact ⟨b, off, ha, h.cell hc (hne _ _ ha)⟩
theorem Tch.below {B B0 : Nat} {a w w' : World} (h : Tch B w w') (hb : Below B0 a w) (hB : B0 ≤ B) (hs : B0 ≤ w.heap.size) : Below B0 a w' := hb.grown h hs (fun k e => by cases e; exact hB)

end

section
set_option linter.unusedSimpArgs false
set_option linter.unusedVariables false
open Go.RowKit

/-- v is a slice of the call's own (from block base on) that holds the ints zs. -/
def OwnV (w : World) (base : Nat) (v : Value) (zs : List Int) : Prop := w.ownsRow base 3 1 v zs.length (zs.map (Value.int .i64))

theorem OwnV.nil (w : World) (base : Nat) : OwnV w base (.slice none 0 0) [] := World.ownsRow_nil _ _ _ _
theorem OwnV.step {w w1 : World} {base : Nat} {v : Value} {zs : List Int} (h : OwnV w base v zs) (hb : Below w.heap.size w w1) : OwnV w1 base v zs := by
  obtain ⟨h1, h2⟩ := h
  refine ⟨h1, ?_⟩
  rcases h2 with h2 | ⟨g, cap, cur, e1, e2, e3, e4⟩
  · exact Or.inl h2
  · exact Or.inr ⟨g, cap, cur, e1, e2, (hb.block g (Array.getElem?_eq_some_iff.1 e3).1).trans e3, e4⟩
theorem OwnV.alloc {w : World} {base : Nat} {v : Value} {zs : List Int} (h : OwnV w base v zs) (o : Obj) : OwnV (w.alloc o) base v zs := World.ownsRow.alloc h o
theorem OwnV.of_nil {w : World} {base : Nat} {v : Value} (h : OwnV w base v []) : v = .slice none 0 0 ∨ ∃ g cap, v = .slice (some ⟨g, 0, none⟩) 0 cap := by
  obtain ⟨h1, h2⟩ := h
  rcases h2 with h2 | ⟨g, cap, cur, e1, _⟩
  · exact Or.inl h2.1
  · exact Or.inr ⟨g, cap, by simpa using e1⟩
theorem OwnV.own {w : World} {base : Nat} {v : Value} {zs : List Int} (h : OwnV w base v zs) (h0 : 0 < zs.length) :
    ∃ g cap, v = .slice (some ⟨g, 0, none⟩) zs.length cap ∧ base ≤ g ∧ OwnI w g zs ∧ zs.length ≤ cap ∧ cap ≤ maxLen := by
  obtain ⟨h1, h2⟩ := h
  rcases h2 with h2 | ⟨g, cap, cur, e1, e2, e3, e4, e5, e6, e7⟩
  · omega
  · refine ⟨g, cap, e1, e2, ⟨cur.toList.drop (zs.length * 1), 3, ?_⟩, e4, e5⟩
    rw [← e7, List.take_append_drop]
    simpa using e3

/-- v is a slice that holds the ints zs. -/
def SlV (w : World) (v : Value) (zs : List Int) : Prop := ∃ ad cap, v = .slice ad zs.length cap ∧ SlI w ad zs.length zs ∧ zs.length ≤ cap ∧ cap ≤ maxLen
theorem SlV.step {w w1 : World} {v : Value} {zs : List Int} (h : SlV w v zs) (hb : Below w.heap.size w w1) : SlV w1 v zs := by
  obtain ⟨ad, cap, e, h1, h2⟩ := h
  exact ⟨ad, cap, e, h1.below hb, h2⟩
theorem SlV.nil (w : World) : SlV w (.slice none 0 0) [] := ⟨none, 0, rfl, SlI.nil _ _, Nat.le_refl _, by unfold maxLen; omega⟩
theorem OwnV.sl {w : World} {base : Nat} {v : Value} {zs : List Int} (h : OwnV w base v zs) : SlV w v zs := by
  by_cases h0 : 0 < zs.length
  · obtain ⟨g, cap, e, _, h1, h2, h3⟩ := h.own h0
    exact ⟨_, cap, e, h1.sl rfl, h2, h3⟩
  · obtain ⟨h1, h2⟩ := h
    have hz : zs = [] := List.eq_nil_of_length_eq_zero (by omega)
    subst hz
    rcases h2 with h2 | ⟨g, cap, cur, e1, e2, e3, e4, e5, e6, e7⟩
    · rw [h2.1]; exact SlV.nil w
    · exact ⟨_, cap, e1, SlI.nil _ _, by simp, e5⟩

theorem info_int : (Try.prog.info? 3).map (fun i => (i.zero, i.size, i.bytes)) = some (some (.int .i64 0), 1, 8) := by kernel_rfl

/-- 'append' of one int that lies in a block of its own. -/
theorem wpList_append_int {w : World} {ops : Array Oper} {rest : List Oper} {o : Oper} {a : Act} {Q : Exit → Act → World → Prop} (hgd : o.guard = none) (s x : Operand) (t : TypeId)
    (ho : o.op = .call { callee := .builtin .append, args := #[s, x], argTypes := #[t, t] }) (ht : Try.prog.underlying t = some (.slice 3))
    (base : Nat) (v : Value) (zs : List Int) (hs : a.eval s = v) (hown : OwnV w base v zs) (g c : Nat) (z : Int) (hx : a.eval x = .slice (some ⟨g, 0, none⟩) 1 c) (hc : w.cell? ⟨g, 0, none⟩ = some (.int .i64 z))
    (hn : zs.length ≤ 1000000000000) (hbase : base ≤ w.heap.size)
    (h : ∀ v' w', OwnV w' base v' (zs ++ [z]) → (∀ w0, Below base w0 w → Below base w0 w') → w.heap.size ≤ w'.heap.size → wpList Try.prog ops Q rest (a.put o.dst v') w') : wpList Try.prog ops Q (o :: rest) a w := by
  obtain ⟨i0, hi, hz0, hz1, hz2⟩ := info_parts info_int
  refine wpList_append_own w hgd s x t ho base 3 i0 (.int .i64 0) 1 8 ht hi hz0 hz1 hz2 rfl (by decide) v zs.length _ hs hown ⟨g, 0, none⟩ 1 c [.int .i64 z] hx rfl ?_ ?_ ?_ ?_ hbase ?_
  · intro j u hj
    cases j with
    | zero => simp at hj; subst hj; exact hc
    | succ j => simp at hj
  · intro u hu; simp at hu; subst hu; rfl
  · unfold maxLen; omega
  · omega
  · intro v' w' h1 h2 _
    refine h v' w' ?_ (fun w0 hb => ?_) h2.size
    · unfold OwnV; simpa using h1
    · exact hb.grown h2 hbase (fun k hk => (World.ownsRow.lt hown k hk).1)

end

section
set_option linter.unusedSimpArgs false
set_option linter.unusedVariables false

instance (key : Int → Int) (a b : Int) : Decidable (ltK key a b) := by unfold ltK; exact inferInstance
theorem ltK_total {key : Int → Int} {a b : Int} (h : a ≠ b) : ltK key a b ∨ ltK key b a := by unfold ltK; omega

def insK (key : Int → Int) (x : Int) : List Int → List Int
  | [] => [x]
  | y :: r => if ltK key x y then x :: y :: r else y :: insK key x r
theorem insK_perm (key : Int → Int) (x : Int) : ∀ l : List Int, (insK key x l).Perm (x :: l)
  | [] => .refl _
  | y :: r => by
    unfold insK; split
    · exact .refl _
    · exact ((insK_perm key x r).cons y).trans (.swap x y r)
theorem insK_sorted {key : Int → Int} {x : Int} : ∀ {l : List Int}, l.Pairwise (ltK key) → x ∉ l → (insK key x l).Pairwise (ltK key)
  | [], _, _ => by simp [insK]
  | y :: r, h, hx => by
    obtain ⟨h1, h2⟩ := List.pairwise_cons.1 h
    have hxy : x ≠ y := fun e => hx (by simp [e])
    have hxr : x ∉ r := fun e => hx (by simp [e])
    unfold insK; split
    · rename_i hl
      refine List.pairwise_cons.2 ⟨fun z hz => ?_, h⟩
      rcases List.mem_cons.1 hz with e | e
      · rw [e]; exact hl
      · exact ltK_trans hl (h1 z e)
    · rename_i hl
      refine List.pairwise_cons.2 ⟨fun z hz => ?_, insK_sorted h2 hxr⟩
      rcases List.mem_cons.1 ((insK_perm key x r).mem_iff.1 hz) with e | e
      · rw [e]; exact (ltK_total hxy).resolve_left hl
      · exact h1 z e
def srtK (key : Int → Int) : List Int → List Int
  | [] => []
  | x :: r => insK key x (srtK key r)
theorem srtK_perm (key : Int → Int) : ∀ l : List Int, (srtK key l).Perm l
  | [] => .refl _
  | x :: r => (insK_perm key x _).trans ((srtK_perm key r).cons x)
theorem srtK_sorted {key : Int → Int} : ∀ {l : List Int}, l.Nodup → (srtK key l).Pairwise (ltK key)
  | [], _ => List.Pairwise.nil
  | x :: r, h => by
    obtain ⟨h1, h2⟩ := List.nodup_cons.1 h
    exact insK_sorted (srtK_sorted h2) (fun e => h1 ((srtK_perm key r).mem_iff.1 e))

/-- 0, 1, .. n - 1 -/
def upto (n : Nat) : List Int := (List.range n).map Int.ofNat
theorem upto_length (n : Nat) : (upto n).length = n := by simp [upto]
theorem upto_succ (n : Nat) : upto (n + 1) = upto n ++ [(n : Int)] := by simp [upto, List.range_succ]
theorem upto_getD {n i : Nat} (h : i < n) : (upto n).getD i 0 = (i : Int) := by simp [upto, List.getD, h]
theorem upto_nodup (n : Nat) : (upto n).Nodup := by
  unfold upto
  rw [List.nodup_iff_pairwise_ne, List.pairwise_map]
  exact (List.nodup_iff_pairwise_ne.1 List.nodup_range).imp (fun h e => h (Int.ofNat.inj e))
theorem mem_upto {n : Nat} {x : Int} : x ∈ upto n ↔ 0 ≤ x ∧ x < n := by
  simp only [upto, List.mem_map, List.mem_range]
  constructor
  · rintro ⟨k, hk, rfl⟩; simp; omega
  · rintro ⟨h1, h2⟩; exact ⟨x.toNat, by omega, by simp; omega⟩

/-- The key by which channels are sorted. -/
def shKey (zs : List Int) (i : Int) : Int := -(zs.getD i.toNat 0)
/-- All channels, as Top orders them. -/
def topAll (zs : List Int) : List Int := srtK (shKey zs) (upto zs.length)
theorem topAll_perm (zs : List Int) : (topAll zs).Perm (upto zs.length) := srtK_perm _ _
theorem topAll_sorted (zs : List Int) : (topAll zs).Pairwise (ltK (shKey zs)) := srtK_sorted (upto_nodup _)
theorem topAll_length (zs : List Int) : (topAll zs).length = zs.length := by rw [(topAll_perm zs).length_eq, upto_length]
theorem topAll_unique {zs l : List Int} (hp : l.Perm (upto zs.length)) (hs : SrtI (shKey zs) l 0 zs.length) : l = topAll zs := by
  have hl : l.length = zs.length := by rw [hp.length_eq, upto_length]
  exact srt_unique (hp.trans (topAll_perm zs).symm) (SrtI.pairwise (by rw [hl]; exact hs)) (topAll_sorted zs)
theorem topAll_mem {zs : List Int} {x : Int} : x ∈ topAll zs ↔ 0 ≤ x ∧ x < zs.length := by rw [(topAll_perm zs).mem_iff, mem_upto]
theorem topAll_nodup (zs : List Int) : (topAll zs).Nodup := (topAll_perm zs).nodup_iff.2 (upto_nodup _)

/-- The first channels, and what they sell together. -/
def topL (zs : List Int) (k : Nat) : List Int := (topAll zs).take k
def atL (zs l : List Int) : List Int := l.map fun i => zs.getD i.toNat 0
def topS (zs : List Int) (k : Nat) : Int := (atL zs (topL zs k)).sum
theorem topL_length (zs : List Int) (k : Nat) : (topL zs k).length = min k zs.length := by unfold topL; rw [List.length_take, topAll_length]
theorem topL_mem {zs : List Int} {k : Nat} {x : Int} (h : x ∈ topL zs k) : 0 ≤ x ∧ x < zs.length := topAll_mem.1 (List.mem_of_mem_take h)
theorem topL_nodup (zs : List Int) (k : Nat) : (topL zs k).Nodup := (topAll_nodup zs).sublist (List.take_sublist _ _)

/-- Are all numbers from 0 to 400? -/
def shIn (zs : List Int) : Prop := ∀ z ∈ zs, 0 ≤ z ∧ z ≤ 400
theorem shIn.getD {zs : List Int} (h : shIn zs) (i : Nat) : 0 ≤ zs.getD i 0 ∧ zs.getD i 0 ≤ 400 := by
  by_cases hi : i < zs.length
  · have := h zs[i] (List.getElem_mem hi)
    simpa [List.getD, hi] using this
  · simp [List.getD, hi]
theorem atL_sum_bounds {zs : List Int} (h : shIn zs) : ∀ l : List Int, 0 ≤ (atL zs l).sum ∧ (atL zs l).sum ≤ 400 * l.length
  | [] => by simp [atL]
  | x :: r => by
    have ih := atL_sum_bounds h r
    have g := h.getD x.toNat
    unfold atL at ih ⊢
    simp only [List.map_cons, List.sum_cons, List.length_cons]
    omega
theorem atL_take_succ {zs l : List Int} {j : Nat} (hj : j < l.length) : (atL zs (l.take (j + 1))).sum = (atL zs (l.take j)).sum + zs.getD (l.getD j 0).toNat 0 := by
  rw [List.take_succ_eq_append_getElem hj]
  unfold atL
  rw [List.map_append, List.sum_append]
  simp [List.getD, hj]

end

section
set_option linter.unusedSimpArgs false
set_option linter.unusedVariables false

/-- The share of a channel. -/
def shr (zs : List Int) (i : Int) : Int := zs.getD i.toNat 0
theorem atL_eq (zs l : List Int) : atL zs l = l.map (shr zs) := rfl

theorem sum_erase (f : Int → Int) : ∀ {l : List Int} {x : Int}, x ∈ l → (l.map f).sum = f x + ((l.erase x).map f).sum
  | [], x, h => by simp at h
  | y :: r, x, h => by
    by_cases e : y = x
    · subst e; simp
    · have hr : x ∈ r := (List.mem_cons.1 h).resolve_left (fun h => e h.symm)
      have ih := sum_erase f hr
      rw [List.erase_cons_tail (by simpa using e)]
      simp only [List.map_cons, List.sum_cons, ih]
      omega

/-- Of a list that falls, the first k have the greatest sum. -/
theorem greatest (f : Int → Int) : ∀ (S : List Int), S.Pairwise (fun a b => f b ≤ f a) → (∀ x ∈ S, 0 ≤ f x) → ∀ (k : Nat) (l : List Int), l.Nodup → (∀ x ∈ l, x ∈ S) → l.length ≤ k → (l.map f).sum ≤ ((S.take k).map f).sum
  | [], _, _, k, l, _, hs, _ => by
    have : l = [] := List.eq_nil_iff_forall_not_mem.2 (fun x hx => by have := hs x hx; simp at this)
    subst this; simp
  | s :: S, hp, h0, 0, l, _, _, hl => by
    have : l = [] := List.eq_nil_of_length_eq_zero (by omega)
    subst this; simp
  | s :: S, hp, h0, k + 1, l, hn, hs, hl => by
    obtain ⟨p1, p2⟩ := List.pairwise_cons.1 hp
    have g0 : ∀ x ∈ S, 0 ≤ f x := fun x hx => h0 x (by simp [hx])
    rw [List.take_succ_cons, List.map_cons, List.sum_cons]
    by_cases hsl : s ∈ l
    · rw [sum_erase f hsl]
      have ih := greatest f S p2 g0 k (l.erase s) (hn.sublist List.erase_sublist) (fun x hx => by
        have hx2 := (List.Nodup.mem_erase_iff hn).1 hx
        exact (List.mem_cons.1 (hs x hx2.2)).resolve_left hx2.1) (by rw [List.length_erase_of_mem hsl]; omega)
      omega
    · have hS : ∀ x ∈ l, x ∈ S := fun x hx => (List.mem_cons.1 (hs x hx)).resolve_left (fun e => hsl (e ▸ hx))
      cases l with
      | nil =>
        simp
        have := h0 s (by simp)
        have ih := greatest f S p2 g0 k [] List.nodup_nil (fun x hx => by simp at hx) (by simp)
        simp at ih
        omega
      | cons x r =>
        have ih := greatest f S p2 g0 k r (List.nodup_cons.1 hn).2 (fun y hy => hS y (by simp [hy])) (by simp at hl; omega)
        have := p1 x (hS x (by simp))
        simp only [List.map_cons, List.sum_cons]
        omega

theorem topAll_falls (zs : List Int) : (topAll zs).Pairwise (fun a b => shr zs b ≤ shr zs a) :=
  (topAll_sorted zs).imp (fun h => by unfold ltK shKey at h; unfold shr; omega)
/-- Channels, as many or fewer, whichever they are. -/
theorem topS_greatest {zs : List Int} (h0 : ∀ z ∈ zs, 0 ≤ z) (k : Nat) {l : List Int} (hn : l.Nodup) (hs : ∀ x ∈ l, 0 ≤ x ∧ x < zs.length) (hl : l.length ≤ k) : (atL zs l).sum ≤ topS zs k := by
  refine greatest (shr zs) (topAll zs) (topAll_falls zs) (fun x hx => ?_) k l hn (fun x hx => topAll_mem.2 (hs x hx)) hl
  obtain ⟨x1, x2⟩ := topAll_mem.1 hx
  unfold shr
  have hlt : x.toNat < zs.length := by omega
  have := h0 zs[x.toNat] (List.getElem_mem hlt)
  simpa [List.getD, hlt] using this

theorem topS_zero (zs : List Int) : topS zs 0 = 0 := by simp [topS, topL, atL]
theorem topS_succ {zs : List Int} {k : Nat} (h : k < zs.length) : topS zs (k + 1) = topS zs k + shr zs ((topAll zs).getD k 0) := by
  unfold topS topL
  rw [atL_take_succ (by rw [topAll_length]; exact h)]
  rfl
theorem topS_all {zs : List Int} {k : Nat} (h : zs.length ≤ k) : topS zs k = topS zs zs.length := by
  unfold topS topL
  rw [List.take_of_length_le (by rw [topAll_length]; exact h), List.take_of_length_le (by rw [topAll_length]; exact Nat.le_refl _)]
theorem topS_nonneg {zs : List Int} (h : shIn zs) (k : Nat) : 0 ≤ topS zs k := (atL_sum_bounds h _).1
theorem topS_mono {zs : List Int} (h0 : ∀ z ∈ zs, 0 ≤ z) {k m : Nat} (h : k ≤ m) : topS zs k ≤ topS zs m :=
  topS_greatest h0 m (topL_nodup zs k) (fun x hx => topL_mem hx) (by rw [topL_length]; omega)

/-- The sum of some channels, when one share has changed. -/
theorem atL_set {zs : List Int} {c : Nat} {x : Int} (hc : c < zs.length) : ∀ {l : List Int}, l.Nodup → (∀ i ∈ l, 0 ≤ i) →
    (atL (zs.set c x) l).sum = (atL zs l).sum + if (c : Int) ∈ l then x - zs.getD c 0 else 0
  | [], _, _ => by simp [atL]
  | i :: r, hn, h0 => by
    obtain ⟨n1, n2⟩ := List.nodup_cons.1 hn
    have ih := atL_set hc n2 (fun j hj => h0 j (by simp [hj])) (x := x)
    have hi := h0 i (by simp)
    unfold atL at ih ⊢
    simp only [List.map_cons, List.sum_cons, ih]
    have e : (zs.set c x).getD i.toNat 0 = if i.toNat = c then x else zs.getD i.toNat 0 := by
      simp only [List.getD_eq_getElem?_getD, List.getElem?_set]
      by_cases h : c = i.toNat
      · subst h; simp [hc]
      · simp [h, Ne.symm h]
    rw [e]
    by_cases h : i.toNat = c
    · have hic : (c : Int) = i := by omega
      rw [if_pos h, hic, if_neg n1, if_pos (by simp), h]; omega
    · have hic : ¬ (c : Int) = i := by omega
      rw [if_neg h]
      by_cases hr : (c : Int) ∈ r
      · rw [if_pos hr, if_pos (by simp [hr])]; omega
      · rw [if_neg hr, if_neg (by simp [hr, hic])]; omega
theorem set_nonneg {zs : List Int} (h0 : ∀ z ∈ zs, 0 ≤ z) (c : Nat) {x : Int} (hx : 0 ≤ x) : ∀ z ∈ zs.set c x, 0 ≤ z := fun z hz => by
  rcases List.mem_or_eq_of_mem_set hz with g | g
  · exact h0 z g
  · omega
/-- A share that falls by d: the sum falls by 0 to d. -/
theorem topS_less {zs : List Int} (h0 : ∀ z ∈ zs, 0 ≤ z) {c : Nat} (hc : c < zs.length) {x : Int} (hx : 0 ≤ x) (hxz : x ≤ zs.getD c 0) (k : Nat) :
    topS (zs.set c x) k ≤ topS zs k ∧ topS zs k - (zs.getD c 0 - x) ≤ topS (zs.set c x) k := by
  have hl : (zs.set c x).length = zs.length := List.length_set
  constructor
  · have h1 : topS (zs.set c x) k = (atL (zs.set c x) (topL (zs.set c x) k)).sum := rfl
    rw [h1, atL_set hc (topL_nodup _ _) (fun i hi => (topL_mem hi).1)]
    have h2 := topS_greatest h0 k (topL_nodup (zs.set c x) k) (fun i hi => by have := topL_mem hi; rw [hl] at this; exact this) (by rw [topL_length]; omega)
    split <;> omega
  · have h2 := topS_greatest (set_nonneg h0 c hx) k (topL_nodup zs k) (fun i hi => by rw [hl]; exact topL_mem hi) (by rw [topL_length]; omega)
    rw [atL_set hc (topL_nodup _ _) (fun i hi => (topL_mem hi).1)] at h2
    have h1 : topS zs k = (atL zs (topL zs k)).sum := rfl
    split at h2 <;> omega

end

section
set_option linter.unusedSimpArgs false
set_option linter.unusedVariables false

/-- The best of the first i channels that are not in out; -1 if there is none. -/
def bst (zs out : List Int) : Nat → Int
  | 0 => -1
  | i + 1 => if (i : Int) ∉ out ∧ (bst zs out i < 0 ∨ shr zs (bst zs out i) < shr zs i) then (i : Int) else bst zs out i

theorem bst_spec (zs out : List Int) : ∀ i : Nat, (bst zs out i = -1 ∧ ∀ j : Nat, j < i → (j : Int) ∈ out) ∨
    (∃ b : Nat, b < i ∧ bst zs out i = (b : Int) ∧ (b : Int) ∉ out ∧ ∀ j : Nat, j < i → (j : Int) ∉ out → j = b ∨ ltK (shKey zs) b j)
  | 0 => Or.inl ⟨rfl, fun j h => by omega⟩
  | i + 1 => by
    unfold bst
    rcases bst_spec zs out i with ⟨h1, h2⟩ | ⟨b, hb, h1, h2, h3⟩
    · rw [h1]
      by_cases hi : (i : Int) ∈ out
      · rw [if_neg (fun h => h.1 hi)]
        refine Or.inl ⟨rfl, fun j hj => ?_⟩
        by_cases e : j = i
        · rw [e]; exact hi
        · exact h2 j (by omega)
      · rw [if_pos ⟨hi, Or.inl (by omega)⟩]
        refine Or.inr ⟨i, by omega, rfl, hi, fun j hj hjo => ?_⟩
        by_cases e : j = i
        · exact Or.inl e
        · exact absurd (h2 j (by omega)) hjo
    · rw [h1]
      by_cases hi : (i : Int) ∈ out
      · rw [if_neg (fun h => h.1 hi)]
        refine Or.inr ⟨b, by omega, rfl, h2, fun j hj hjo => ?_⟩
        by_cases e : j = i
        · rw [e] at hjo; exact absurd hi hjo
        · exact h3 j (by omega) hjo
      · by_cases hlt : shr zs b < shr zs i
        · rw [if_pos ⟨hi, Or.inr hlt⟩]
          have hib : ltK (shKey zs) i b := by unfold ltK shKey; unfold shr at hlt; omega
          refine Or.inr ⟨i, by omega, rfl, hi, fun j hj hjo => ?_⟩
          by_cases e : j = i
          · exact Or.inl e
          · rcases h3 j (by omega) hjo with g | g
            · subst g; exact Or.inr hib
            · exact Or.inr (ltK_trans hib g)
        · rw [if_neg (fun h => h.2.elim (fun h => by omega) hlt)]
          have hbi : ltK (shKey zs) b i := by unfold ltK shKey; unfold shr at hlt; omega
          refine Or.inr ⟨b, by omega, rfl, h2, fun j hj hjo => ?_⟩
          by_cases e : j = i
          · subst e; exact Or.inr hbi
          · exact h3 j (by omega) hjo
theorem bst_lo (zs out : List Int) (i : Nat) : -1 ≤ bst zs out i ∧ bst zs out i < i := by
  rcases bst_spec zs out i with ⟨h1, _⟩ | ⟨b, hb, h1, _⟩ <;> omega

theorem mem_drop_of {l : List Int} {k : Nat} {x : Int} (hx : x ∈ l) (hk : x ∉ l.take k) : x ∈ l.drop k := by
  rw [← List.take_append_drop k l] at hx
  exact (List.mem_append.1 hx).resolve_left hk
theorem getD_mem_int {l : List Int} {k : Nat} (hk : k < l.length) : l.getD k 0 ∈ l := by simp [List.getD, hk]
theorem not_in_take {l : List Int} (h : l.Nodup) {k : Nat} (hk : k < l.length) : l.getD k 0 ∉ l.take k := by
  have e := List.take_append_drop k l
  rw [← e] at h
  rw [List.drop_eq_getElem_cons hk] at h
  have := (List.nodup_append.1 h).2.2
  intro hm
  have h2 : l.getD k 0 = l[k] := by simp [List.getD, hk]
  rw [h2] at hm
  exact this _ hm _ (List.mem_cons_self ..) rfl
/-- The best channel that is not among the first k is the next one. -/
theorem bst_top {zs : List Int} {k : Nat} (hk : k < zs.length) : bst zs (topL zs k) zs.length = (topAll zs).getD k 0 := by
  have hkl : k < (topAll zs).length := by rw [topAll_length]; exact hk
  have hm := getD_mem_int hkl
  obtain ⟨m1, m2⟩ := topAll_mem.1 hm
  obtain ⟨t, ht⟩ := Int.eq_ofNat_of_zero_le m1
  have hnt : (topAll zs).getD k 0 ∉ topL zs k := not_in_take (topAll_nodup zs) hkl
  rw [ht] at m2 hnt ⊢
  rcases bst_spec zs (topL zs k) zs.length with ⟨_, h2⟩ | ⟨b, hb, h1, h2, h3⟩
  · exact absurd (h2 t (by omega)) hnt
  · rw [h1]
    rcases h3 t (by omega) hnt with e | h4
    · rw [e]
    · have hbm : (b : Int) ∈ (topAll zs).drop k := mem_drop_of (topAll_mem.2 ⟨by omega, by omega⟩) h2
      rw [List.drop_eq_getElem_cons hkl] at hbm
      have e2 : (topAll zs)[k] = (t : Int) := by rw [← ht]; simp [List.getD, hkl]
      rcases List.mem_cons.1 hbm with e | h5
      · rw [e, e2]
      · have hp := topAll_sorted zs
        rw [← List.take_append_drop k (topAll zs), List.pairwise_append, List.drop_eq_getElem_cons hkl] at hp
        have := (List.pairwise_cons.1 hp.2.1).1 _ h5
        rw [e2] at this
        unfold ltK at this h4
        omega
theorem topL_succ {zs : List Int} {k : Nat} (hk : k < zs.length) : topL zs (k + 1) = topL zs k ++ [(topAll zs).getD k 0] := by
  unfold topL
  rw [List.take_succ_eq_append_getElem (by rw [topAll_length]; exact hk)]
  simp [List.getD, topAll_length, hk]

end

section
set_option linter.unusedSimpArgs false
set_option linter.unusedVariables false

/-- How many guests are walked at most. -/
def wkI (rooms sold : Int) (zs : List Int) (c : Nat) : Int := max 0 (sold - rooms + topS zs c)

/-- What the channels sell, one after the other, until nothing is left. -/
def sellC (zs : List Int) : Int → List Int → List Int
  | _, [] => []
  | left, i :: r => if left = 0 then [] else i :: sellC zs (left - min left (shr zs i)) r
def sellS (zs : List Int) : Int → List Int → List Int
  | _, [] => []
  | left, i :: r => if left = 0 then [] else min left (shr zs i) :: sellS zs (left - min left (shr zs i)) r
theorem map_nonneg {f : Int → Int} : ∀ (q : List Int), (∀ j ∈ q, 0 ≤ f j) → 0 ≤ (q.map f).sum
  | [], _ => by simp
  | x :: q, hq => by
    have a := hq x (by simp)
    have b := map_nonneg q (fun j hj => hq j (by simp [hj]))
    simp only [List.map_cons, List.sum_cons]; omega
theorem sellC_zero (zs : List Int) : ∀ l, sellC zs 0 l = []
  | [] => rfl
  | i :: r => by simp [sellC]
theorem sellS_zero (zs : List Int) : ∀ l, sellS zs 0 l = []
  | [] => rfl
  | i :: r => by simp [sellS]
theorem sell_len (zs : List Int) : ∀ (l : List Int) (left : Int), (sellC zs left l).length = (sellS zs left l).length
  | [], _ => rfl
  | i :: r, left => by
    unfold sellC sellS
    split
    · rfl
    · simp [sell_len zs r]
theorem sellC_prefix (zs : List Int) : ∀ (l : List Int) (left : Int), sellC zs left l <+: l
  | [], _ => ⟨[], rfl⟩
  | i :: r, left => by
    unfold sellC
    split
    · exact ⟨_, rfl⟩
    · obtain ⟨t, ht⟩ := sellC_prefix zs r (left - min left (shr zs i))
      exact ⟨t, by rw [List.cons_append, ht]⟩
theorem sellS_in (zs : List Int) : ∀ (l : List Int) (left : Int) (k : Nat), 0 ≤ left → (∀ i ∈ l, 0 ≤ shr zs i) → k < (sellS zs left l).length →
    0 ≤ (sellS zs left l).getD k 0 ∧ (sellS zs left l).getD k 0 ≤ shr zs (l.getD k 0)
  | [], _, k, _, _, h => by simp [sellS] at h
  | i :: r, left, k, h0, hp, h => by
    have hi := hp i (by simp)
    unfold sellS at h ⊢
    split at h
    · simp at h
    · rename_i hne
      rw [if_neg hne]
      cases k with
      | zero => simp only [List.getD_cons_zero]; omega
      | succ k =>
        simp only [List.getD_cons_succ]
        exact sellS_in zs r _ k (by omega) (fun j hj => hp j (by simp [hj])) (by simpa using h)
/-- If they have enough, they sell all that is left. -/
theorem sellS_sum (zs : List Int) : ∀ (l : List Int) (left : Int), 0 ≤ left → (∀ i ∈ l, 0 ≤ shr zs i) → left ≤ (l.map (shr zs)).sum → (sellS zs left l).sum = left
  | [], left, h0, _, h => by simp at h; simp [sellS]; omega
  | i :: r, left, h0, hp, h => by
    have hi := hp i (by simp)
    unfold sellS
    simp only [List.map_cons, List.sum_cons] at h
    split
    · rename_i e; simp [e]
    · have ih := sellS_sum zs r (left - min left (shr zs i)) (by omega) (fun j hj => hp j (by simp [hj])) (by
        have hs : 0 ≤ (r.map (shr zs)).sum := by
          have : ∀ (q : List Int), (∀ j ∈ q, 0 ≤ shr zs j) → 0 ≤ (q.map (shr zs)).sum := by
            intro q
            induction q with
            | nil => intro _; simp
            | cons x q ih => intro hq; have a := hq x (by simp); have b := ih (fun j hj => hq j (by simp [hj])); simp only [List.map_cons, List.sum_cons]; omega
          exact this r (fun j hj => hp j (by simp [hj]))
        omega)
      simp only [List.sum_cons, ih]
      omega
/-- Each of them sells at least one, if shares fall and there are enough. -/
theorem sellS_pos (zs : List Int) : ∀ (l : List Int) (left : Int) (k : Nat), 0 ≤ left → (∀ i ∈ l, 0 ≤ shr zs i) → l.Pairwise (fun a b => shr zs b ≤ shr zs a) → left ≤ (l.map (shr zs)).sum →
    k < (sellS zs left l).length → 1 ≤ (sellS zs left l).getD k 0
  | [], _, k, _, _, _, _, h => by simp [sellS] at h
  | i :: r, left, k, h0, hp, hd, hs, h => by
    have hi := hp i (by simp)
    obtain ⟨d1, d2⟩ := List.pairwise_cons.1 hd
    simp only [List.map_cons, List.sum_cons] at hs
    unfold sellS at h ⊢
    split at h
    · simp at h
    · rename_i hne
      rw [if_neg hne]
      have hip : 1 ≤ shr zs i := by
        by_cases hz : 1 ≤ shr zs i
        · exact hz
        · have hall : ∀ (q : List Int), (∀ j ∈ q, shr zs j ≤ shr zs i) → (q.map (shr zs)).sum ≤ 0 := by
            intro q
            induction q with
            | nil => intro _; simp
            | cons x q ih => intro hq; have a := hq x (by simp); have b := ih (fun j hj => hq j (by simp [hj])); simp only [List.map_cons, List.sum_cons]; omega
          have := hall r d1
          omega
      cases k with
      | zero => simp only [List.getD_cons_zero]; omega
      | succ k =>
        simp only [List.getD_cons_succ]
        exact sellS_pos zs r _ k (by omega) (fun j hj => hp j (by simp [hj])) d2 (by have := map_nonneg r (fun j hj => hp j (by simp [hj])); omega) (by simpa using h)
/-- With one channel less there is less than all that is left. -/
theorem sellC_least (zs : List Int) : ∀ (l : List Int) (left : Int) (k : Nat), 0 ≤ left → (∀ i ∈ l, 0 ≤ shr zs i) → (sellC zs left l).length = k + 1 → ((l.take k).map (shr zs)).sum < left
  | [], _, k, _, _, h => by simp [sellC] at h
  | i :: r, left, k, h0, hp, h => by
    have hi := hp i (by simp)
    unfold sellC at h
    split at h
    · simp at h
    · rename_i hne
      simp only [List.length_cons] at h
      cases k with
      | zero => simp; omega
      | succ k =>
        have ih := sellC_least zs r (left - min left (shr zs i)) k (by omega) (fun j hj => hp j (by simp [hj])) (by omega)
        have hpos : ∀ (q : List Int), (∀ j ∈ q, 0 ≤ shr zs j) → 0 ≤ (q.map (shr zs)).sum := by
          intro q
          induction q with
          | nil => intro _; simp
          | cons x q ih => intro hq; have a := hq x (by simp); have b := ih (fun j hj => hq j (by simp [hj])); simp only [List.map_cons, List.sum_cons]; omega
        have h3 := hpos (r.take k) (fun j hj => hp j (by simp [List.mem_of_mem_take hj]))
        simp only [List.take_succ_cons, List.map_cons, List.sum_cons]
        omega

end

section
set_option linter.unusedSimpArgs false
set_option linter.unusedVariables false

theorem getD_setA {zs : List Int} {c : Nat} {x : Int} (i : Nat) (hc : c < zs.length) : (zs.set c x).getD i 0 = if i = c then x else zs.getD i 0 := by
  simp only [List.getD_eq_getElem?_getD, List.getElem?_set]
  by_cases h : c = i
  · subst h; simp [hc]
  · simp [h, Ne.symm h]
theorem getD_memA {zs : List Int} {i : Nat} (h : i < zs.length) : zs.getD i 0 ∈ zs := by simp [List.getD, h]
theorem atL_le {zs ys : List Int} (h : ∀ i, zs.getD i 0 ≤ ys.getD i 0) : ∀ l : List Int, (atL zs l).sum ≤ (atL ys l).sum
  | [] => by simp [atL]
  | x :: r => by
    have ih := atL_le h r
    have := h x.toNat
    simp only [atL, List.map_cons, List.sum_cons] at *
    omega
/-- Greater shares, a greater sum. -/
theorem topS_pw {zs ys : List Int} (hl : zs.length = ys.length) (h0 : ∀ y ∈ ys, 0 ≤ y) (h : ∀ i, zs.getD i 0 ≤ ys.getD i 0) (k : Nat) : topS zs k ≤ topS ys k := by
  have h1 : topS zs k = (atL zs (topL zs k)).sum := rfl
  rw [h1]
  exact Int.le_trans (atL_le h _) (topS_greatest h0 k (topL_nodup _ _) (fun x hx => by rw [← hl]; exact topL_mem hx) (by rw [topL_length]; omega))
/-- One share greater by 1: the sum is greater by 0 or 1. -/
theorem topS_add {zs : List Int} (h0 : ∀ z ∈ zs, 0 ≤ z) {c : Nat} (hc : c < zs.length) (k : Nat) :
    topS zs k ≤ topS (zs.set c (zs.getD c 0 + 1)) k ∧ topS (zs.set c (zs.getD c 0 + 1)) k ≤ topS zs k + 1 := by
  have hz := h0 _ (getD_memA hc)
  have h := topS_less (set_nonneg h0 c (x := zs.getD c 0 + 1) (by omega)) (c := c) (by rw [List.length_set]; exact hc) (x := zs.getD c 0) hz (by rw [getD_setA c hc, if_pos rfl]; omega) k
  have e : (zs.set c (zs.getD c 0 + 1)).set c (zs.getD c 0) = zs := by
    rw [List.set_set]
    refine List.ext_getElem (by simp) (fun i h1 h2 => ?_)
    rw [List.getElem_set]
    split
    · rename_i hci; subst hci; simp [List.getD, hc]
    · rfl
  rw [e, getD_setA c hc, if_pos rfl] at h
  omega
/-- The greatest share greater by 1: so is the sum. -/
theorem topS_max {zs : List Int} (h0 : ∀ z ∈ zs, 0 ≤ z) {c : Nat} (hc : c < zs.length) (hm : ∀ i, zs.getD i 0 ≤ zs.getD c 0) {k : Nat} (hk : 1 ≤ k) : topS zs k + 1 ≤ topS (zs.set c (zs.getD c 0 + 1)) k := by
  have hz := h0 _ (getD_memA hc)
  have hp := set_nonneg h0 c (x := zs.getD c 0 + 1) (by omega)
  have key : ∀ l : List Int, l.Nodup → (∀ x ∈ l, 0 ≤ x ∧ x < zs.length) → l.length ≤ k → (c : Int) ∈ l → topS zs k ≤ (atL zs l).sum → topS zs k + 1 ≤ topS (zs.set c (zs.getD c 0 + 1)) k := fun l hn hs hl hcl hle => by
    have h2 := topS_greatest hp k hn (fun x hx => by rw [List.length_set]; exact hs x hx) hl
    rw [atL_set hc hn (fun x hx => (hs x hx).1), if_pos hcl] at h2
    omega
  by_cases hcl : (c : Int) ∈ topL zs k
  · exact key _ (topL_nodup _ _) (fun x hx => topL_mem hx) (by rw [topL_length]; omega) hcl (Int.le_refl _)
  · cases hl : topL zs k with
    | nil =>
      have := topL_length zs k
      rw [hl] at this
      simp at this
      omega
    | cons y r =>
      have hn := topL_nodup zs k
      have hlen := topL_length zs k
      rw [hl] at hn hcl hlen
      obtain ⟨_, n2⟩ := List.nodup_cons.1 hn
      have hmem : ∀ x ∈ y :: r, 0 ≤ x ∧ x < zs.length := fun x hx => topL_mem (k := k) (by rw [hl]; exact hx)
      refine key ((c : Int) :: r) (List.nodup_cons.2 ⟨fun h => hcl (by simp [h]), n2⟩) (fun x hx => ?_) (by simp at hlen ⊢; omega) (by simp) ?_
      · rcases List.mem_cons.1 hx with e | e
        · rw [e]; omega
        · exact hmem x (by simp [e])
      · have h1 : topS zs k = (atL zs (topL zs k)).sum := rfl
        rw [h1, hl]
        have := hm y.toNat
        simp only [atL, List.map_cons, List.sum_cons, Int.toNat_natCast]
        omega
/-- Two equal shares: it is the same which of them is greater. -/
theorem topS_swap_le {zs : List Int} (h0 : ∀ z ∈ zs, 0 ≤ z) {i f : Nat} (hi : i < zs.length) (hf : f < zs.length) (he : zs.getD i 0 = zs.getD f 0) (k : Nat) :
    topS (zs.set f (zs.getD f 0 + 1)) k ≤ topS (zs.set i (zs.getD i 0 + 1)) k := by
  have hz := h0 _ (getD_memA hi)
  by_cases hif : i = f
  · subst hif; exact Int.le_refl _
  have sg : ∀ x : Int, ∃ y : Int, y = (if x = f then (i : Int) else if x = i then (f : Int) else x) := fun x => ⟨_, rfl⟩
  let σ : Int → Int := fun x => if x = f then (i : Int) else if x = i then (f : Int) else x
  have hinj : ∀ x y, σ x = σ y → x = y := fun x y h => by
    simp only [σ] at h
    split at h <;> split at h <;> (try split at h) <;> (try split at h) <;> omega
  have hval : ∀ x : Int, 0 ≤ x → (zs.set f (zs.getD f 0 + 1)).getD x.toNat 0 = (zs.set i (zs.getD i 0 + 1)).getD (σ x).toNat 0 := fun x hx => by
    simp only [σ]
    rw [getD_setA _ hf]
    by_cases h1 : x = f
    · subst h1
      rw [if_pos (by simp), if_pos rfl, getD_setA _ hi, if_pos (by simp), he]
    · rw [if_neg (by omega), if_neg h1]
      by_cases h2 : x = i
      · subst h2
        rw [if_pos rfl, getD_setA _ hi, if_neg (by simp; omega)]
        simpa using he
      · rw [if_neg h2, getD_setA _ hi, if_neg (by omega)]
  have hsum : ∀ l : List Int, (∀ x ∈ l, 0 ≤ x) → (atL (zs.set f (zs.getD f 0 + 1)) l).sum = (atL (zs.set i (zs.getD i 0 + 1)) (l.map σ)).sum := by
    intro l
    induction l with
    | nil => intro _; rfl
    | cons x r ih =>
      intro hx
      have h1 := ih (fun y hy => hx y (by simp [hy]))
      have h2 := hval x (hx x (by simp))
      simp only [atL, List.map_cons, List.sum_cons] at *
      omega
  have h1 : topS (zs.set f (zs.getD f 0 + 1)) k = (atL (zs.set f (zs.getD f 0 + 1)) (topL (zs.set f (zs.getD f 0 + 1)) k)).sum := rfl
  rw [h1, hsum _ (fun x hx => (topL_mem hx).1)]
  refine topS_greatest (set_nonneg h0 i (x := zs.getD i 0 + 1) (by omega)) k ?_ ?_ (by rw [List.length_map, topL_length]; omega)
  · exact List.Pairwise.map σ (fun a b h e => h (hinj a b e)) (topL_nodup _ _)
  · intro x hx
    obtain ⟨y, hy, rfl⟩ := List.mem_map.1 hx
    have := topL_mem hy
    rw [List.length_set] at this
    rw [List.length_set]
    simp only [σ]
    split
    · omega
    · split <;> omega

/-- Each wish, at most h. -/
def capL (zs : List Int) (h : Int) : List Int := zs.map fun z => min z h
theorem capL_length (zs : List Int) (h : Int) : (capL zs h).length = zs.length := by simp [capL]
theorem capL_getD {zs : List Int} {h : Int} {i : Nat} (hi : i < zs.length) : (capL zs h).getD i 0 = min (zs.getD i 0) h := by simp [capL, List.getD, hi]
/-- The first p wishes at most h + 1, the others at most h. -/
def divP (zs : List Int) (h : Int) (p : Nat) : List Int := (List.range zs.length).map fun i => if i < p then min (zs.getD i 0) (h + 1) else min (zs.getD i 0) h
theorem divP_length (zs : List Int) (h : Int) (p : Nat) : (divP zs h p).length = zs.length := by simp [divP]
theorem divP_getD {zs : List Int} {h : Int} {p i : Nat} (hi : i < zs.length) : (divP zs h p).getD i 0 = if i < p then min (zs.getD i 0) (h + 1) else min (zs.getD i 0) h := by simp [divP, List.getD, hi]
theorem ext_getDA {xs ys : List Int} (hl : xs.length = ys.length) (h : ∀ i, i < xs.length → xs.getD i 0 = ys.getD i 0) : xs = ys := by
  refine List.ext_getElem hl (fun i h1 h2 => ?_)
  have := h i h1
  simpa [List.getD, h1, h2] using this
theorem divP_zero (zs : List Int) (h : Int) : divP zs h 0 = capL zs h :=
  ext_getDA (by rw [divP_length, capL_length]) (fun i hi => by rw [divP_length] at hi; rw [divP_getD hi, capL_getD hi, if_neg (by omega)])
theorem divP_all (zs : List Int) (h : Int) {p : Nat} (hp : zs.length ≤ p) : divP zs h p = capL zs (h + 1) :=
  ext_getDA (by rw [divP_length, capL_length]) (fun i hi => by rw [divP_length] at hi; rw [divP_getD hi, capL_getD hi, if_pos (by omega)])
theorem divP_skip {zs : List Int} {h : Int} {p : Nat} (hp : p < zs.length) (hz : zs.getD p 0 ≤ h) : divP zs h (p + 1) = divP zs h p :=
  ext_getDA (by rw [divP_length, divP_length]) (fun i hi => by
    rw [divP_length] at hi
    rw [divP_getD hi, divP_getD hi]
    by_cases e : i = p
    · subst e; rw [if_pos (by omega), if_neg (by omega)]; omega
    · by_cases h2 : i < p
      · rw [if_pos (by omega), if_pos h2]
      · rw [if_neg (by omega), if_neg h2])
theorem divP_more {zs : List Int} {h : Int} {p : Nat} (hp : p < zs.length) (hz : h < zs.getD p 0) : (divP zs h p).getD p 0 = h ∧ (divP zs h p).set p (h + 1) = divP zs h (p + 1) := by
  refine ⟨by rw [divP_getD hp, if_neg (by omega)]; omega, ext_getDA (by rw [List.length_set, divP_length, divP_length]) (fun i hi => ?_)⟩
  rw [List.length_set, divP_length] at hi
  rw [getD_setA _ (by rw [divP_length]; exact hp), divP_getD hi, divP_getD hi]
  by_cases e : i = p
  · subst e; rw [if_pos rfl, if_pos (by omega)]; omega
  · rw [if_neg e]
    by_cases h2 : i < p
    · rw [if_pos h2, if_pos (by omega)]
    · rw [if_neg h2, if_neg (by omega)]

end

section
set_option linter.unusedSimpArgs false
set_option linter.unusedVariables false

/-- The greatest level that keeps the bound. -/
def lvF (zs : List Int) (cut : Nat) (b : Int) : Nat → Nat → Nat
  | 0, h => h
  | f + 1, h => if topS (capL zs ((h : Int) + 1)) cut ≤ b then lvF zs cut b f (h + 1) else h
theorem lvF_spec (zs : List Int) (cut : Nat) (b : Int) : ∀ (f h : Nat), h ≤ lvF zs cut b f h ∧ lvF zs cut b f h ≤ h + f ∧ (∀ j : Nat, h ≤ j → j < lvF zs cut b f h → topS (capL zs ((j : Int) + 1)) cut ≤ b) ∧
    (lvF zs cut b f h < h + f → b < topS (capL zs ((lvF zs cut b f h : Int) + 1)) cut)
  | 0, h => ⟨Nat.le_refl _, by simp [lvF], fun j h1 h2 => by simp [lvF] at h2; omega, fun h1 => by simp [lvF] at h1⟩
  | f + 1, h => by
    unfold lvF
    split
    · rename_i hk
      obtain ⟨a1, a2, a3, a4⟩ := lvF_spec zs cut b f (h + 1)
      refine ⟨by omega, by omega, fun j h1 h2 => ?_, fun h1 => a4 (by omega)⟩
      rcases Nat.lt_or_ge h j with e | e
      · exact a3 j e h2
      · obtain rfl : j = h := by omega
        exact hk
    · rename_i hk
      exact ⟨Nat.le_refl _, by omega, fun j h1 h2 => by omega, fun _ => by omega⟩
def lvl (zs : List Int) (cut : Nat) (b : Int) : Nat := lvF zs cut b 400 0
theorem lvl_spec (zs : List Int) (cut : Nat) (b : Int) : lvl zs cut b ≤ 400 ∧ (∀ j : Nat, j < lvl zs cut b → topS (capL zs ((j : Int) + 1)) cut ≤ b) ∧ (lvl zs cut b < 400 → b < topS (capL zs ((lvl zs cut b : Int) + 1)) cut) := by
  obtain ⟨_, a2, a3, a4⟩ := lvF_spec zs cut b 400 0
  exact ⟨by unfold lvl; omega, fun j h => a3 j (Nat.zero_le _) h, fun h => a4 (by unfold lvl at h; omega)⟩
theorem lvl_unique {zs : List Int} {cut : Nat} {b : Int} {r : Nat} (h1 : r ≤ 400) (h2 : ∀ j : Nat, j < r → topS (capL zs ((j : Int) + 1)) cut ≤ b) (h3 : r < 400 → b < topS (capL zs ((r : Int) + 1)) cut) : lvl zs cut b = r := by
  obtain ⟨a1, a2, a3⟩ := lvl_spec zs cut b
  rcases Nat.lt_trichotomy (lvl zs cut b) r with h | h | h
  · have := h2 _ h; have := a3 (by omega); omega
  · exact h
  · have := a2 _ h; have := h3 (by omega); omega
theorem capL_nonneg {zs : List Int} (h0 : ∀ z ∈ zs, 0 ≤ z) {h : Int} (hh : 0 ≤ h) : ∀ z ∈ capL zs h, 0 ≤ z := fun z hz => by
  obtain ⟨y, hy, rfl⟩ := List.mem_map.1 hz
  have := h0 y hy
  omega
/-- A greater level, a greater sum. -/
theorem capL_mono {zs : List Int} (h0 : ∀ z ∈ zs, 0 ≤ z) {h g : Int} (hh : 0 ≤ g) (hg : h ≤ g) (k : Nat) : topS (capL zs h) k ≤ topS (capL zs g) k :=
  topS_pw (by rw [capL_length, capL_length]) (capL_nonneg h0 hh) (fun i => by
    by_cases hi : i < zs.length
    · rw [capL_getD hi, capL_getD hi]; omega
    · simp [List.getD, capL, show ¬ i < zs.length from hi]) k

/-- How many wishes are filled up by one more. -/
def fillF (zs : List Int) (cut : Nat) (b h : Int) : Nat → Nat → Nat
  | 0, i => i
  | f + 1, i => if zs.getD i 0 ≤ h then fillF zs cut b h f (i + 1) else if topS (divP zs h (i + 1)) cut ≤ b then fillF zs cut b h f (i + 1) else i
theorem fillF_spec {zs : List Int} {cut : Nat} {b h : Int} : ∀ (f i : Nat), i + f = zs.length → topS (divP zs h i) cut ≤ b →
    i ≤ fillF zs cut b h f i ∧ fillF zs cut b h f i ≤ zs.length ∧ topS (divP zs h (fillF zs cut b h f i)) cut ≤ b ∧
    (fillF zs cut b h f i < zs.length → h < zs.getD (fillF zs cut b h f i) 0 ∧ b < topS (divP zs h (fillF zs cut b h f i + 1)) cut)
  | 0, i, hi, ht => ⟨Nat.le_refl _, by simp [fillF]; omega, ht, fun h1 => by simp [fillF] at h1; omega⟩
  | f + 1, i, hi, ht => by
    unfold fillF
    split
    · rename_i hz
      have hd : divP zs h (i + 1) = divP zs h i := divP_skip (by omega) hz
      obtain ⟨a1, a2, a3, a4⟩ := fillF_spec (zs := zs) (cut := cut) (b := b) (h := h) f (i + 1) (by omega) (by rw [hd]; exact ht)
      exact ⟨by omega, a2, a3, a4⟩
    · rename_i hz
      split
      · rename_i hk
        obtain ⟨a1, a2, a3, a4⟩ := fillF_spec (zs := zs) (cut := cut) (b := b) (h := h) f (i + 1) (by omega) hk
        exact ⟨by omega, a2, a3, a4⟩
      · rename_i hk
        exact ⟨Nat.le_refl _, by omega, ht, fun _ => ⟨by omega, by omega⟩⟩

/-- l is the division of the wishes zs. -/
structure DivOk (zs : List Int) (cut : Nat) (b : Int) (h p : Nat) : Prop where
  top : h ≤ 400
  len : p ≤ zs.length
  keeps : topS (divP zs h p) cut ≤ b
  next : p < zs.length → (h : Int) < zs.getD p 0 ∧ b < topS (divP zs h (p + 1)) cut
  level : h < 400 → b < topS (capL zs ((h : Int) + 1)) cut
  below : ∀ j : Nat, j < h → topS (capL zs ((j : Int) + 1)) cut ≤ b
def divA (zs : List Int) (cut : Nat) (b : Int) : List Int := divP zs (lvl zs cut b) (fillF zs cut b (lvl zs cut b) zs.length 0)
theorem topS_capL_zero {zs : List Int} (h0 : ∀ z ∈ zs, 0 ≤ z) (k : Nat) : topS (capL zs 0) k ≤ 0 := by
  have h1 : topS (capL zs 0) k = (atL (capL zs 0) (topL (capL zs 0) k)).sum := rfl
  rw [h1]
  have : ∀ l : List Int, (atL (capL zs 0) l).sum ≤ 0 := fun l => by
    induction l with
    | nil => simp [atL]
    | cons x r ih =>
      have hx : (capL zs 0).getD x.toNat 0 ≤ 0 := by
        by_cases hi : x.toNat < zs.length
        · rw [capL_getD hi]; omega
        · simp [List.getD, capL, show ¬ x.toNat < zs.length from hi]
      simp only [atL, List.map_cons, List.sum_cons] at *
      omega
  exact this _
theorem divA_ok {zs : List Int} {cut : Nat} {b : Int} (h0 : ∀ z ∈ zs, 0 ≤ z) (hb : 0 ≤ b) : DivOk zs cut b (lvl zs cut b) (fillF zs cut b (lvl zs cut b) zs.length 0) := by
  obtain ⟨a1, a2, a3⟩ := lvl_spec zs cut b
  have ht : topS (divP zs (lvl zs cut b) 0) cut ≤ b := by
    rw [divP_zero]
    rcases Nat.eq_zero_or_pos (lvl zs cut b) with e | e
    · rw [e]; exact Int.le_trans (topS_capL_zero h0 cut) hb
    · have := a2 (lvl zs cut b - 1) (by omega)
      rwa [show ((lvl zs cut b - 1 : Nat) : Int) + 1 = (lvl zs cut b : Int) by omega] at this
  obtain ⟨b1, b2, b3, b4⟩ := fillF_spec (zs := zs) (cut := cut) (b := b) (h := lvl zs cut b) zs.length 0 (by omega) ht
  exact ⟨a1, b2, b3, b4, a3, a2⟩
theorem divP_in {zs : List Int} (h0 : ∀ z ∈ zs, 0 ≤ z) {h : Int} (hh : 0 ≤ h) {p : Nat} : ∀ z ∈ divP zs h p, 0 ≤ z := fun z hz => by
  obtain ⟨i, hi, rfl⟩ := List.mem_map.1 hz
  have := h0 _ (getD_memA (List.mem_range.1 hi))
  split <;> omega
theorem divP_le {zs : List Int} {h : Int} {p i : Nat} (hi : i < zs.length) : (divP zs h p).getD i 0 ≤ zs.getD i 0 := by
  rw [divP_getD hi]; split <;> omega

/-- A channel that wishes one room more: with it the bound breaks; and no channel has two rooms more than it. -/
theorem div_leaves {zs : List Int} {cut : Nat} {b : Int} {h p : Nat} (D : DivOk zs cut b h p) (hz : ∀ z ∈ zs, 0 ≤ z ∧ z ≤ 400) (hb : 0 ≤ b) {i : Nat} (hi : i < zs.length) (hl : (divP zs h p).getD i 0 < zs.getD i 0) :
    b < topS ((divP zs h p).set i ((divP zs h p).getD i 0 + 1)) cut ∧ ∀ k, k < zs.length → (divP zs h p).getD k 0 ≤ (divP zs h p).getD i 0 + 1 := by
  have h0 : ∀ z ∈ zs, 0 ≤ z := fun z hz' => (hz z hz').1
  have hzi := hz _ (getD_memA hi)
  have hpos := divP_in (h := (h : Int)) (p := p) h0 (by omega)
  have hlen := divP_length zs h p
  have hgi := divP_getD (h := (h : Int)) (p := p) hi
  have hge : (h : Int) ≤ (divP zs h p).getD i 0 ∧ ((divP zs h p).getD i 0 = h ∨ (divP zs h p).getD i 0 = h + 1) := by
    rw [hgi] at hl ⊢
    by_cases hip : i < p
    · rw [if_pos hip] at hl ⊢; omega
    · rw [if_neg hip] at hl ⊢; omega
  refine ⟨?_, fun k hk => ?_⟩
  · by_cases hp : p < zs.length
    · obtain ⟨n1, n2⟩ := D.next hp
      obtain ⟨m1, m2⟩ := divP_more hp n1
      have ha := topS_add hpos (c := p) (by rw [hlen]; exact hp) cut
      rw [m1, m2] at ha
      rcases hge.2 with e | e
      · have hs := topS_swap_le hpos (i := i) (f := p) (by rw [hlen]; exact hi) (by rw [hlen]; exact hp) (by rw [e, m1]) cut
        rw [m1, m2] at hs
        omega
      · have hk1 : 1 ≤ cut := by
          rcases Nat.eq_zero_or_pos cut with e | e
          · subst e
            rw [topS_zero] at n2
            omega
          · exact e
        have hm := topS_max hpos (c := i) (by rw [hlen]; exact hi) (fun j => by
          rw [e]
          by_cases hj : j < zs.length
          · rw [divP_getD hj]; split <;> omega
          · simp [List.getD, divP, hj]; omega) hk1
        have := D.keeps
        omega
    · exfalso
      have hpn : p = zs.length := by have := D.len; omega
      have hall := divP_all zs h (p := p) (by omega)
      have hk := D.keeps
      rw [hall] at hk
      rw [hgi, if_pos (by omega)] at hl
      have := D.level (by omega)
      omega
  · rw [divP_getD hk]
    split <;> omega

/-- Where more is kept, no channel gets less. -/
theorem div_more {zs : List Int} {cut cut' : Nat} {b b' : Int} {h p h' p' : Nat} (D : DivOk zs cut b h p) (D' : DivOk zs cut' b' h' p') (h0 : ∀ z ∈ zs, 0 ≤ z)
    (hk : ∀ ys : List Int, (∀ y ∈ ys, 0 ≤ y) → topS ys cut ≤ b → topS ys cut' ≤ b') {i : Nat} (hi : i < zs.length) : (divP zs h p).getD i 0 ≤ (divP zs h' p').getD i 0 := by
  have hle : h ≤ h' := by
    rcases Nat.lt_or_ge h' h with e | e
    · exfalso
      have h1 := D.below h' e
      have h2 := hk _ (capL_nonneg h0 (h := (h' : Int) + 1) (by omega)) h1
      have h3 := D'.level (by have := D.top; omega)
      omega
    · exact e
  rw [divP_getD hi, divP_getD hi]
  rcases Nat.lt_or_ge h h' with e | e
  · split <;> split <;> omega
  · obtain rfl : h = h' := by omega
    have hpp : p ≤ p' := by
      rcases Nat.lt_or_ge p' p with g | g
      · exfalso
        obtain ⟨n1, n2⟩ := D'.next (by have := D.len; omega)
        have h1 : topS (divP zs h (p' + 1)) cut ≤ topS (divP zs h p) cut := topS_pw (by rw [divP_length, divP_length]) (divP_in h0 (by omega)) (fun j => by
          by_cases hj : j < zs.length
          · rw [divP_getD hj, divP_getD hj]
            by_cases h1 : j < p' + 1
            · rw [if_pos h1, if_pos (by omega)]; omega
            · rw [if_neg h1]; split <;> omega
          · simp [List.getD, divP, hj]) cut
        have h2 := hk _ (divP_in h0 (h := (h : Int)) (p := p' + 1) (by omega)) (by have := D.keeps; omega)
        omega
      · exact g
    by_cases h1 : i < p
    · rw [if_pos h1, if_pos (by omega)]; omega
    · rw [if_neg h1]; split <;> omega

end

end Go.Proofs.Ytijbhdpaikajkaa
