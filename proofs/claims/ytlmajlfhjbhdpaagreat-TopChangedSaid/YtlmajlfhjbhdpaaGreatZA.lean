/-
 Slices whose elements are k cells each: in memory; of the call's own; append.
-/
import Derived.Test.YtlmajlfhjbhdpaaGreatOwnV
import Derived.Test.YtlmajlfhjbhdpaaGreatCh
import Derived.Maps.AppendAt
namespace Go.Proofs.YtlmajlfhjbhdpaaGreat
set_option linter.unusedSimpArgs false
set_option linter.unusedVariables false
open Go.RowKit
/-- What an element is in memory. -/
structure Enc (α : Type) where
 k : Nat
 c : α → List Value
 len : ∀ x, (c x).length = k
 one : ∀ x, ∀ u ∈ c x, u.oneCell' = true
 pos : 0 < k
variable {α : Type} {E : Enc α}
theorem Enc.flat (E : Enc α) : ∀ (l : List α) (j : Nat) (x : α) (i : Nat), l[j]? = some x → i < E.k → (l.flatMap E.c)[j * E.k + i]? = (E.c x)[i]?
 | [], j, x, i, h, _ => by simp at h
 | y :: r, 0, x, i, h, hi => by
  simp at h
  subst h
  rw [List.flatMap_cons, List.getElem?_append_left (by rw [E.len]; omega)]
  simp
 | y :: r, j + 1, x, i, h, hi => by
  have ih := E.flat r j x i (by simpa using h) hi
  have e : (j + 1) * E.k = j * E.k + E.k := Nat.succ_mul j E.k
  rw [List.flatMap_cons, List.getElem?_append_right (by rw [E.len]; omega), ← ih, E.len]
  congr 1
  omega
theorem Enc.flat_len (E : Enc α) : ∀ l : List α, (l.flatMap E.c).length = l.length * E.k
 | [] => by simp
 | x :: r => by rw [List.flatMap_cons, List.length_append, E.flat_len r, E.len, List.length_cons, Nat.succ_mul, Nat.add_comm]
theorem Enc.one_all (E : Enc α) (l : List α) : ∀ u ∈ l.flatMap E.c, u.oneCell' = true := fun u hu => by
 obtain ⟨y, _, hy⟩ := List.mem_flatMap.1 hu
 exact E.one y u hy
/-- The slice of length n at address a holds the elements l. -/
def SlG (E : Enc α) (w : World) (a : Option Addr) (n : Nat) (l : List α) : Prop :=
 l.length = n ∧ ∀ i x, l[i]? = some x → ∃ b off, a = some ⟨b, off, none⟩ ∧ ∀ j v, (E.c x)[j]? = some v → w.cell? ⟨b, off + i * E.k + j, none⟩ = some v
section
variable {w w1 : World} {a : Option Addr} {n : Nat} {l : List α}
theorem SlG.nil (E : Enc α) (w : World) (a : Option Addr) : SlG E w a 0 [] := ⟨rfl, fun i x h => by simp at h⟩
theorem SlG.step (h : SlG E w a n l) (hb : Below w.heap.size w w1) : SlG E w1 a n l := by
 refine ⟨h.1, fun i x hx => ?_⟩
 obtain ⟨b, off, e, hc⟩ := h.2 i x hx
 exact ⟨b, off, e, fun j v hj => (hb.cell (p := ⟨b, _, none⟩) (World.block_lt_of_cell? w _ (hc j v hj))).trans (hc j v hj)⟩
theorem SlG.alloc (h : SlG E w a n l) (o : Obj) : SlG E (w.alloc o) a n l := h.step ((Below.refl _ _).alloc (Nat.le_refl _) _)
theorem SlG.get (h : SlG E w a n l) {i : Nat} (hi : i < n) : ∃ x b off, Hid (l[i]? = some x) ∧ a = some ⟨b, off, none⟩ ∧ b < w.heap.size ∧ ∀ j v, (E.c x)[j]? = some v → w.cell? ⟨b, off + i * E.k + j, none⟩ = some v := by
 have hil : i < l.length := by rw [h.1]; exact hi
 have hx : l[i]? = some l[i] := List.getElem?_eq_getElem hil
 obtain ⟨b, off, e, hc⟩ := h.2 i _ hx
 refine ⟨l[i], b, off, hx, e, ?_, hc⟩
 have h0 : (E.c l[i])[0]? = some ((E.c l[i])[0]'(by rw [E.len]; exact E.pos)) := List.getElem?_eq_getElem _
 exact World.block_lt_of_cell? w _ (hc 0 _ h0)
theorem SlG.take (h : SlG E w a n l) {k : Nat} (hk : k ≤ n) : SlG E w a k (l.take k) := by
 refine ⟨by rw [List.length_take, h.1]; omega, fun i x hx => ?_⟩
 have hik : i < k := by have := (List.getElem?_eq_some_iff.1 hx).1; simp at this; omega
 rw [List.getElem?_take_of_lt hik] at hx
 exact h.2 i x hx
theorem SlG.drop {b off : Nat} (h : SlG E w (some ⟨b, off, none⟩) n l) {k : Nat} (hk : k ≤ n) : SlG E w (some ⟨b, off + k * E.k, none⟩) (n - k) (l.drop k) := by
 refine ⟨by rw [List.length_drop, h.1], fun i x hx => ?_⟩
 rw [List.getElem?_drop] at hx
 obtain ⟨b', off', e, hc⟩ := h.2 (k + i) x hx
 cases e
 refine ⟨b, off + k * E.k, rfl, fun j v hj => ?_⟩
 rw [show off + k * E.k + i * E.k + j = off + (k + i) * E.k + j by rw [Nat.add_mul]; omega]
 exact hc j v hj
theorem SlG.ad (h : SlG E w a n l) (hn : 0 < n) : ∃ b off, a = some ⟨b, off, none⟩ ∧ b < w.heap.size := by
 obtain ⟨_, b, off, _, e, hb, _⟩ := h.get hn
 exact ⟨b, off, e, hb⟩
/-- The cells of a run of elements. -/
theorem SlG.news {b off m : Nat} {ys : List α} (h : SlG E w (some ⟨b, off, none⟩) m ys) : ∀ j u, (ys.flatMap E.c)[j]? = some u → w.cell? ((⟨b, off, none⟩ : Addr).add j) = some u := fun j u hj => by
 have hk := E.pos
 have hlt : j < ys.length * E.k := by
  have := (List.getElem?_eq_some_iff.1 hj).1
  rwa [E.flat_len] at this
 have hi : j / E.k < ys.length := (Nat.div_lt_iff_lt_mul hk).2 hlt
 have hx : ys[j / E.k]? = some (ys[j / E.k]'hi) := List.getElem?_eq_getElem hi
 have hf := E.flat ys (j / E.k) _ (j % E.k) hx (Nat.mod_lt _ hk)
 have e : j / E.k * E.k + j % E.k = j := by rw [Nat.mul_comm]; exact Nat.div_add_mod j E.k
 rw [e, hj] at hf
 obtain ⟨b', off', e', hc⟩ := h.2 (j / E.k) _ hx
 cases e'
 have := hc (j % E.k) u hf.symm
 rw [show (⟨b, off, none⟩ : Addr).add j = ⟨b, off + j, none⟩ by simp [Addr.add]]
 rwa [Nat.add_assoc, e] at this
theorem SlG.row {g : Nat} {rest : List Value} (h : Row w g (l.flatMap E.c ++ rest)) (hl : l.length = n) : SlG E w (some ⟨g, 0, none⟩) n l := by
 refine ⟨hl, fun i x hx => ⟨g, 0, rfl, fun j v hj => ?_⟩⟩
 have hjk : j < E.k := by have := (List.getElem?_eq_some_iff.1 hj).1; rwa [E.len] at this
 have hf := E.flat l i x j hx hjk
 rw [hj] at hf
 refine h.cell _ ?_
 rw [Nat.zero_add, List.getElem?_append_left (List.getElem?_eq_some_iff.1 hf).1, hf]
end
/-- v is a slice of the call's own (from block base on) that holds the elements l. -/
def OwnG (E : Enc α) (T : TypeId) (w : World) (base : Nat) (v : Value) (l : List α) : Prop := w.ownsRow base T E.k v l.length (l.flatMap E.c)
section
variable {T : TypeId} {w w1 : World} {base : Nat} {v : Value} {l : List α}
theorem OwnG.nil (E : Enc α) (T : TypeId) (w : World) (base : Nat) : OwnG E T w base (.slice none 0 0) [] := World.ownsRow_nil _ _ _ _
theorem OwnG.step (h : OwnG E T w base v l) (hb : Below w.heap.size w w1) : OwnG E T w1 base v l := by
 obtain ⟨h1, h2⟩ := h
 refine ⟨h1, ?_⟩
 rcases h2 with h2 | ⟨g, cap, cur, e1, e2, e3, e4⟩
 ·
  exact Or.inl h2
 ·
  exact Or.inr ⟨g, cap, cur, e1, e2, (hb.block g (Array.getElem?_eq_some_iff.1 e3).1).trans e3, e4⟩
theorem OwnG.alloc (h : OwnG E T w base v l) (o : Obj) : OwnG E T (w.alloc o) base v l := World.ownsRow.alloc h o
theorem OwnG.ch {o : Nat → Prop} {B : World} (h : OwnG E T w base v l) (k : Ch o w B) (hn : ∀ g, v.ownBlock = some g → ¬ o g) : OwnG E T B base v l := by
 refine ⟨h.1, ?_⟩
 rcases h.2 with h2 | ⟨g, cap, cur, rfl, e2, e3, e4⟩
 ·
  exact Or.inl h2
 ·
  exact Or.inr ⟨g, cap, cur, rfl, e2, (k.2.2.2.2 g (Array.getElem?_eq_some_iff.1 e3).1 (hn g rfl)).trans e3, e4⟩
theorem OwnG.lt (h : OwnG E T w base v l) {g : Nat} (hg : v.ownBlock = some g) : base ≤ g ∧ g < w.heap.size := World.ownsRow.lt h g hg
theorem OwnG.mono (h : OwnG E T w base v l) {b : Nat} (hb : b ≤ base) : OwnG E T w b v l := by
 refine ⟨h.1, ?_⟩
 rcases h.2 with h2 | ⟨g, cap, cur, rfl, e2, e3⟩
 ·
  exact Or.inl h2
 ·
  exact Or.inr ⟨g, cap, cur, rfl, Nat.le_trans hb e2, e3⟩
/-- Its form; where it is not empty: its row. -/
theorem OwnG.shape (h : OwnG E T w base v l) {n : Nat} (hn : l.length = n) : ∃ ad cap, v = .slice ad n cap ∧ OwnG E T w base (.slice ad n cap) l ∧ n ≤ cap ∧ cap ≤ maxLen := by
 subst hn
 have h' := h
 obtain ⟨h1, h2⟩ := h
 rcases h2 with ⟨rfl, h2⟩ | ⟨g, cap, cur, rfl, e2, e3, e4, e5, _⟩
 ·
  exact ⟨none, 0, by rw [h2], by rw [h2]; exact h', by omega, by unfold maxLen; omega⟩
 ·
  exact ⟨_, cap, rfl, h', e4, e5⟩
theorem OwnG.at (h : OwnG E T w base v l) (h0 : 0 < l.length) : ∃ g cap rest, v = .slice (some ⟨g, 0, none⟩) l.length cap ∧ base ≤ g ∧ Row w g (l.flatMap E.c ++ rest) ∧ l.length ≤ cap ∧ cap ≤ maxLen := by
 obtain ⟨h1, h2⟩ := h
 rcases h2 with h2 | ⟨g, cap, cur, e1, e2, e3, e4, e5, e6, e7⟩
 ·
  omega
 ·
  refine ⟨g, cap, cur.toList.drop (l.length * E.k), e1, e2, ⟨T, ?_⟩, e4, e5⟩
  rw [← e7, List.take_append_drop]
  simpa using e3
theorem OwnG.sl {ad : Option Addr} {n cap : Nat} (h : OwnG E T w base (.slice ad n cap) l) : SlG E w ad n l := by
 by_cases h0 : 0 < l.length
 ·
  obtain ⟨g, c, rest, e, _, h1, _⟩ := h.at h0
  simp only [Value.slice.injEq] at e
  obtain ⟨rfl, rfl, rfl⟩ := e
  exact SlG.row h1 rfl
 ·
  have hz : l = [] := List.eq_nil_of_length_eq_zero (by omega)
  subst hz
  obtain ⟨h1, h2⟩ := h
  rcases h2 with ⟨e, _⟩ | ⟨g, cap, cur, e, _⟩
  ·
   simp only [Value.slice.injEq] at e
   obtain ⟨rfl, rfl, rfl⟩ := e
   exact SlG.nil E w _
  ·
   simp only [Value.slice.injEq] at e
   obtain ⟨rfl, rfl, rfl⟩ := e
   exact SlG.nil E w _
theorem OwnG.sizes {ad : Option Addr} {n cap : Nat} (h : OwnG E T w base (.slice ad n cap) l) : l.length = n ∧ n ≤ cap ∧ cap ≤ maxLen := by
 obtain ⟨ad', c', e, _, h2, h3⟩ := h.shape rfl
 simp only [Value.slice.injEq] at e
 obtain ⟨rfl, rfl, rfl⟩ := e
 exact ⟨rfl, h2, h3⟩
end
/-- What 'append' wants of the element's type: its zero value, how many bytes. -/
def InfoG (E : Enc α) (T : TypeId) (z : Value) (by' : Nat) : Prop := (Tryz.prog.info? T).map (fun i => (i.zero, i.size, i.bytes)) = some (some z, E.k, by') ∧ z.cells.size = E.k
section
variable {ops : Array Oper} {rest : List Oper} {o : Oper} {a : Act} {Q : Exit → Act → World → Prop} {w : World} {T : TypeId} {z : Value} {by' : Nat}
theorem run_append_G (hI : InfoG E T z by') (t : TypeId) (ht : Tryz.prog.underlying t = some (.slice T)) (ty : TypeId) (base : Nat) {v : Value} {l : List α} (hown : OwnG E T w base v l) {xa : Option Addr} {m c : Nat} {ys : List α}
  (hr : SlG E w xa m ys) (hn : (l.length + m) * by' ≤ 140737488355328) (hn2 : l.length + m ≤ 1000000000000) (hbase : base ≤ w.heap.size) :
  ∃ v' w', (Builtin.append_ #[t, t] ty #[v, .slice xa m c]).run Tryz.prog w = .ok v' w' ∧ OwnG E T w' base v' (l ++ ys) ∧ w.grownBy w' v.ownBlock ∧ (v'.ownBlock = v.ownBlock ∨ v'.ownBlock = some w.heap.size) := by
 obtain ⟨i0, hi, hz0, hz1, hz2⟩ := info_parts hI.1
 cases xa with
 | none =>
  have hy : ys = [] := by
   cases ys with
   | nil => rfl
   | cons y r => obtain ⟨_, _, e, _⟩ := hr.2 0 y rfl; cases e
  subst hy
  have hm : m = 0 := hr.1.symm
  subst hm
  refine ⟨v, w, ?_, by rw [List.append_nil]; exact hown, ⟨rfl, rfl, rfl, Nat.le_refl _, fun _ _ _ => rfl⟩, Or.inl rfl⟩
  obtain ⟨ad2, cap2, rfl, ho2, hc1, _⟩ := hown.shape rfl
  cases ad2 with
  | none => simp [Builtin.append_, run_underlying ht, sizeOf, typeInfo, hi, Builtin.lenOf, Builtin.firstCells, loadCells, loadCellsFrom, hc1]
  | some q => simp [Builtin.append_, run_underlying ht, sizeOf, typeInfo, hi, Builtin.lenOf, Builtin.firstCells, loadCells, loadCellsFrom, storeCells, hc1]
 | some q =>
  by_cases hm : 0 < m
  ·
   obtain ⟨b, off, e, _⟩ := hr.ad hm
   cases e
   obtain ⟨v', w', hrun, r1, r2, _, r4⟩ := run_append_own_at (P := Tryz.prog) w base t ty T i0 z E.k by' ht hi hz0 hz1 hz2 hI.2 E.pos v l.length _ hown ⟨b, off, none⟩ m c (ys.flatMap E.c) (by rw [E.flat_len, hr.1]) hr.news (E.one_all ys) (by unfold maxLen; omega) hn hbase
   refine ⟨v', w', hrun, ?_, r2, r4⟩
   unfold OwnG
   rw [List.flatMap_append, List.length_append, hr.1]
   exact r1
  ·
   have hm0 : m = 0 := by omega
   subst hm0
   have hy : ys = [] := List.eq_nil_of_length_eq_zero hr.1
   subst hy
   obtain ⟨v', w', hrun, r1, r2, _, r4⟩ := run_append_own_at (P := Tryz.prog) w base t ty T i0 z E.k by' ht hi hz0 hz1 hz2 hI.2 E.pos v l.length _ hown q 0 c [] (by simp) (by simp) (by simp) (by unfold maxLen; omega) hn hbase
   refine ⟨v', w', hrun, ?_, r2, r4⟩
   unfold OwnG
   rw [List.append_nil]
   simpa using r1
/-- 'append' of a slice to a slice of the call's own. -/
theorem wpList_append_G (hI : InfoG E T z by') (hgd : o.guard = none) (s x : Operand) (t : TypeId) (ho : o.op = .call { callee := .builtin .append, args := #[s, x], argTypes := #[t, t] }) (ht : Tryz.prog.underlying t = some (.slice T))
  (base : Nat) {v : Value} {l : List α} (hs : a.eval s = v) (hown : OwnG E T w base v l) {xa : Option Addr} {m c : Nat} {ys : List α} (hx : a.eval x = .slice xa m c)
  (hr : SlG E w xa m ys) (hn : (l.length + m) * by' ≤ 140737488355328) (hn2 : l.length + m ≤ 1000000000000) (hbase : base ≤ w.heap.size)
  (h : ∀ v' w', OwnG E T w' base v' (l ++ ys) → w.grownBy w' v.ownBlock → (v'.ownBlock = v.ownBlock ∨ v'.ownBlock = some w.heap.size) → (∀ w0, Below base w0 w → Below base w0 w') → wpList Tryz.prog ops Q rest (a.put o.dst v') w') : wpList Tryz.prog ops Q (o :: rest) a w := by
 refine wpList_plain hgd fun K hK => ?_
 obtain ⟨v', w', hrun, h1, h2, h4⟩ := run_append_G hI t ht o.type base hown (c := c) hr hn hn2 hbase
 unfold Oper.wp execOp
 simp only [ho, resolve, invoke, builtin, Sem.run_bind, Sem.run_pure, Result.andThen_ok, List.map_toArray, List.map_cons, List.map_nil, hs, hx, hrun]
 exact hK _ _ (h v' w' h1 h2 h4 (fun w0 hb => hb.grown h2 hbase (fun k hk => (World.ownsRow.lt hown k hk).1)))
/-- .. as a step of a region that draws. -/
theorem step_append_G {K : Act → World → Prop} {X : Prop} (hI : InfoG E T z by') (hgd : o.guard = none) (s x : Operand) (t : TypeId) (ho : o.op = .call { callee := .builtin .append, args := #[s, x], argTypes := #[t, t] }) (ht : Tryz.prog.underlying t = some (.slice T))
  (base : Nat) {v : Value} {l : List α} (hs : a.eval s = v) (hown : OwnG E T w base v l) {xa : Option Addr} {m c : Nat} {ys : List α} (hx : a.eval x = .slice xa m c)
  (hr : SlG E w xa m ys) (hn : (l.length + m) * by' ≤ 140737488355328) (hn2 : l.length + m ≤ 1000000000000) (hbase : base ≤ w.heap.size)
  (h : ∀ v' w', OwnG E T w' base v' (l ++ ys) → w.grownBy w' v.ownBlock → (v'.ownBlock = v.ownBlock ∨ v'.ownBlock = some w.heap.size) → (∀ w0, Below base w0 w → Below base w0 w') → K (a.put o.dst v') w') :
  if Region.wanted o (yielded ops a.tmps) = true then Oper.wp Tryz.prog o a w K Q else X := by
 have hw : Region.wanted o (yielded ops a.tmps) = true := by simp [Region.wanted, hgd]
 rw [if_pos hw]
 obtain ⟨v', w', hrun, h1, h2, h4⟩ := run_append_G hI t ht o.type base hown (c := c) hr hn hn2 hbase
 unfold Oper.wp execOp
 simp only [ho, resolve, invoke, builtin, Sem.run_bind, Sem.run_pure, Result.andThen_ok, List.map_toArray, List.map_cons, List.map_nil, hs, hx, hrun]
 exact h v' w' h1 h2 h4 (fun w0 hb => hb.grown h2 hbase (fun k hk => (World.ownsRow.lt hown k hk).1))
/-- 'append' to a slice that has no room: whatever slice it is. -/
theorem run_append_clip (hI : InfoG E T z by') (t : TypeId) (ht : Tryz.prog.underlying t = some (.slice T)) (ty : TypeId) {sa : Option Addr} {n : Nat} {l : List α} (hs : SlG E w sa n l) {xa : Option Addr} {m c : Nat} {ys : List α}
  (hr : SlG E w xa m ys) (hm : 0 < m) (hn : (n + m) * by' ≤ 140737488355328) (hn2 : n + m ≤ 1000000000000) :
  ∃ g cap w', (Builtin.append_ #[t, t] ty #[.slice sa n n, .slice xa m c]).run Tryz.prog w = .ok (.slice (some ⟨g, 0, none⟩) (n + m) cap) w' ∧ OwnG E T w' w.heap.size (.slice (some ⟨g, 0, none⟩) (n + m) cap) (l ++ ys) ∧ w.grownBy w' none := by
 obtain ⟨i, hi, hz0, hz1, hz2⟩ := info_parts hI.1
 obtain ⟨b, off, e, _⟩ := hr.ad hm
 cases e
 have grown : ∀ (old : Nat), old < n + m → (w.drew.alloc (.cells ((l.flatMap E.c).toArray ++ (ys.flatMap E.c).toArray ++ Builtin.zeroCells z.cells (grownCap w (n + m) old T - (n + m))) T)).ownsRow w.heap.size T E.k
    (.slice (some ⟨w.heap.size, 0, none⟩) (n + m) (grownCap w (n + m) old T)) (n + m) ((l ++ ys).flatMap E.c) ∧
   w.grownBy (w.drew.alloc (.cells ((l.flatMap E.c).toArray ++ (ys.flatMap E.c).toArray ++ Builtin.zeroCells z.cells (grownCap w (n + m) old T - (n + m))) T)) none := by
  intro old ho
  have hge := grownCap_ge w (n + m) old T
  have hcm : grownCap w (n + m) old T ≤ maxLen := grownCap_le_maxLen w (n + m) old T (by unfold maxLen; omega)
  refine ⟨⟨by rw [E.flat_len, List.length_append, hs.1, hr.1], .inr ⟨w.heap.size, _, _, rfl, Nat.le_refl _, heap_alloc_new w.drew _, hge, hcm, ?_, ?_⟩⟩, ⟨rfl, rfl, rfl, by simp, fun k hk _ => Below.heap_alloc w.drew _ _ hk⟩⟩
  ·
   simp only [Array.size_append, List.size_toArray, size_zeroCells, hI.2, E.flat_len, hs.1, hr.1, ← Nat.add_mul]
   rw [show n + m + (grownCap w (n + m) old T - (n + m)) = grownCap w (n + m) old T by omega]
  ·
   have e1 : ∀ Zc : Array Value, ((l.flatMap E.c).toArray ++ (ys.flatMap E.c).toArray ++ Zc).toList = (l ++ ys).flatMap E.c ++ Zc.toList := fun Zc => by simp
   have e2 : ((l ++ ys).flatMap E.c).length = (n + m) * E.k := by rw [E.flat_len, List.length_append, hs.1, hr.1]
   rw [e1, ← e2]
   exact List.take_left
 have hlen : (l ++ ys).length = n + m := by rw [List.length_append, hs.1, hr.1]
 cases sa with
 | none =>
  have hl : l = [] := by
   cases l with
   | nil => rfl
   | cons y r => obtain ⟨_, _, e, _⟩ := hs.2 0 y rfl; cases e
  subst hl
  have hn0 : n = 0 := hs.1.symm
  subst hn0
  have hrun := run_append_nil (P := Tryz.prog) w t ty T i z ht hi hz0 ⟨b, off, none⟩ m c (ys.flatMap E.c) (by rw [E.flat_len, hr.1, hz1]) hr.news (by omega) (by omega) (by rw [hz2]; rw [Nat.zero_add] at hn; omega)
  have hgr := grown 0 (by omega)
  simp only [Nat.zero_add, List.flatMap_nil, Array.empty_append] at hgr hrun ⊢
  exact ⟨_, _, _, hrun, by unfold OwnG; rw [List.nil_append, hr.1]; simpa using hgr.1, hgr.2⟩
 | some q =>
  have hcells : ∀ j u, (l.flatMap E.c)[j]? = some u → w.cell? (q.add j) = some u := by
   by_cases h0 : 0 < n
   ·
    obtain ⟨b', off', e, _⟩ := hs.ad h0
    cases e
    exact hs.news
   ·
    have : l = [] := List.eq_nil_of_length_eq_zero (by rw [hs.1]; omega)
    subst this
    intro j u hj
    simp at hj
  have hrun := run_append_grow (P := Tryz.prog) w t ty T i z ht hi hz0 q n n (l.flatMap E.c) (by rw [E.flat_len, hs.1, hz1]) hcells ⟨b, off, none⟩ m c (ys.flatMap E.c) (by rw [E.flat_len, hr.1, hz1]) hr.news (by omega) (by omega) (growslice_fits (by omega) (by rw [hz2]; exact hn))
  have hgr := grown n (by omega)
  exact ⟨_, _, _, hrun, by unfold OwnG; rw [hlen]; exact hgr.1, hgr.2⟩
end
end Go.Proofs.YtlmajlfhjbhdpaaGreat
