/-
  A map with int keys that a call made and ranges over.
-/
import Derived.Test.YtdijdfhlmnhcjaaMapI
import Derived.Test.YtdijdfhlmnhcjaaOwnV
import Derived.Maps.RangeRun
namespace Go.Proofs.Ytdijdfhlmnhcjaa
set_option linter.unusedSimpArgs false
set_option linter.unusedVariables false
open Go.RowKit Go.MapKept
open Go.ChangeMaps (setBlock)

/-- Block r is a map with int keys that holds the pairs f; its stamps are in order. -/
def RMap (w : World) (r : Nat) (f : List (Int × Value)) : Prop := ∃ es c, w.heap[r]? = some (.map es c) ∧ IsPairs es.toList f ∧ Stamped es c
theorem RMap.imap {w : World} {r : Nat} {f : List (Int × Value)} (h : RMap w r f) : IMap w r f := by
  obtain ⟨es, c, h1, h2, _⟩ := h
  exact ⟨es, c, h1, h2⟩
theorem RMap.lt {w : World} {r : Nat} {f : List (Int × Value)} (h : RMap w r f) : r < w.heap.size := h.imap.lt
theorem RMap.of_block {w w' : World} {r : Nat} {f : List (Int × Value)} (h : RMap w r f) (e : w'.heap[r]? = w.heap[r]?) : RMap w' r f := by
  obtain ⟨es, c, hb, hp⟩ := h
  exact ⟨es, c, e.trans hb, hp⟩
theorem RMap.below {w w' : World} {r : Nat} {f : List (Int × Value)} (h : RMap w r f) (hb : Below w.heap.size w w') : RMap w' r f := h.of_block (hb.block r h.lt)
theorem RMap.alloc {w : World} {r : Nat} {f : List (Int × Value)} (h : RMap w r f) (o : Obj) : RMap (w.alloc o) r f := h.of_block (Below.heap_alloc _ _ _ h.lt)
theorem rmap_made (w : World) : RMap (w.alloc (.map #[] 0)) w.heap.size [] := ⟨#[], 0, by show (w.heap.push _)[w.heap.size]? = _; simp, rfl, stamped_empty 0⟩
theorem look_none_mem {f : List (Int × Value)} {k : Int} (h : look f k = none) : ∀ x ∈ f, x.1 ≠ k := by
  induction f with
  | nil => intro x hx; simp at hx
  | cons y r ih =>
    intro x hx
    unfold look at h
    split at h
    · cases h
    · rename_i hk
      rcases List.mem_cons.1 hx with rfl | hx
      · exact fun e => hk e.symm
      · exact ih h x hx
theorem IsPairs.mem {es : List MapEntry} {f : List (Int × Value)} (h : IsPairs es f) {x : MapEntry} (hx : x ∈ es) : ∃ p ∈ f, x.key = .int .i64 p.1 ∧ x.val = p.2 := by
  unfold IsPairs at h
  have h1 : (x.key, x.val) ∈ es.map (fun e => (e.key, e.val)) := List.mem_map.2 ⟨x, hx, rfl⟩
  rw [h] at h1
  obtain ⟨p, hp, e⟩ := List.mem_map.1 h1
  simp only [Prod.mk.injEq] at e
  exact ⟨p, hp, e.1.symm, e.2.symm⟩
theorem IsPairs.keys {es : List MapEntry} {f : List (Int × Value)} (h : IsPairs es f) : es.map (·.key) = f.map (fun x => Value.int .i64 x.1) := by
  unfold IsPairs at h
  have := congrArg (List.map Prod.fst) h
  simpa [List.map_map, Function.comp_def] using this
theorem look_of_mem {f : List (Int × Value)} (hn : (f.map (fun x => Value.int .i64 x.1)).Nodup) : ∀ {p : Int × Value}, p ∈ f → look f p.1 = some p.2 := by
  induction f with
  | nil => intro p hp; simp at hp
  | cons y r ih =>
    intro p hp
    rw [List.map_cons, List.nodup_cons] at hn
    unfold look
    rcases List.mem_cons.1 hp with rfl | hp
    · simp
    · have hne : p.1 ≠ y.1 := fun e => hn.1 (List.mem_map.2 ⟨p, hp, by rw [e]⟩)
      rw [if_neg hne]
      exact ih hn.2 hp
/-- The value of each entry is what a look-up of its key gives. -/
theorem RMap.entries {w : World} {r : Nat} {f : List (Int × Value)} (h : RMap w r f) : ∃ es c, w.heap[r]? = some (.map es c) ∧ Stamped es c ∧ ∀ x ∈ es.toList, ∃ k : Int, x.key = .int .i64 k ∧ look f k = some x.val := by
  obtain ⟨es, c, h1, h2, h3⟩ := h
  refine ⟨es, c, h1, h3, fun x hx => ?_⟩
  obtain ⟨p, hp, e1, e2⟩ := h2.mem hx
  refine ⟨p.1, e1, ?_⟩
  rw [e2]
  have hn := h3.2.2
  rw [h2.keys] at hn
  exact look_of_mem hn hp

section
variable {P : Program} {w : World} {T K E : TypeId} {r : Nat} {f : List (Int × Value)}
theorem run_update_rmap (hT : P.underlying T = some (.map K E)) (hK : P.underlying K = some (.int .i64)) (h : RMap w r f) (k : Int) (v : Value) :
    ∃ w', (Instr.mapUpdate T (.map (some r)) (.int .i64 k) v).run P w = .ok () w' ∧ RMap w' r (upd f k v) ∧ w.grownBy w' (some r) := by
  obtain ⟨es, c, hb, hp, hst⟩ := h
  have hf := find_pairs k es.toList f 0 hp
  have hck : (Instr.checkKey false 10000 K (.int .i64 k)).run P w = .ok () w := run_checkKey hK (by simp [IsKey]) _ _
  have hgb : ∀ o, w.grownBy { w with heap := w.heap.setIfInBounds r o } (some r) := fun o =>
    ⟨rfl, rfl, rfl, by simp, fun i _ hi => (heap_set hb).2 i (fun e => hi (by rw [e]))⟩
  unfold Instr.mapUpdate
  cases hl : look f k with
  | none =>
    have hfi := run_findKey (w := w) hK (hf.1 hl)
    refine ⟨_, ?_, ⟨es.push ⟨.int .i64 k, v, c⟩, c + 1, (heap_set hb).1, ?_, stamped_push hst (fun x hx => ?_)⟩, hgb _⟩
    · simp [run_underlying hT, MapKept.run_getObj_map hb, hck, hfi, MapKept.run_setObj_map _ hb]
    · rw [Array.toList_push]; exact pairs_push hp k v c hl
    · obtain ⟨p, hp1, e1, _⟩ := hp.mem hx
      rw [e1]
      intro e
      injection e with _ e2
      exact look_none_mem hl p hp1 e2
  | some u =>
    obtain ⟨j, h1, h2, h3⟩ := hf.2 u hl
    have hfi := run_findKey (w := w) hK h1
    have hkey : ((es[j]?).map (·.key)).getD (.int .i64 k) = .int .i64 k := by
      rw [← Array.getElem?_toList, h2]; rfl
    have hst' : (Instr.keyThatStays (.int .i64 k) (.int .i64 k)).run P w = .ok (.int .i64 k) w := by
      simp [Instr.keyThatStays, Instr.sameBits]
    refine ⟨_, ?_, ⟨es.modify j fun e => { e with key := .int .i64 k, val := v }, c, (heap_set hb).1, ?_, stamped_modify hst j _ (fun e _ => rfl) (fun e he hj => ?_)⟩, hgb _⟩
    · simp [run_underlying hT, MapKept.run_getObj_map hb, hck, hfi]
      rw [hkey, hst']
      simp [run_setObj_map _ hb]
    · rw [Array.toList_modify]; exact h3 v
    · rw [Array.getElem?_toList, hj] at h2
      simp at h2
      exact h2.symm
end
/-- 'm[k] = v' at the operation. -/
theorem wpList_update_rmap {P : Program} (w : World) {ops : Array Oper} {rest : List Oper} {o : Oper} {a : Act} {Q : Exit → Act → World → Prop}
    (hg : o.guard = none) (m x v : Operand) (T : TypeId) (hop : o.op = Op.mapUpdate T m x v ∨ o.op = Op.insert T m x v) (K E : TypeId)
    (hT : P.underlying T = some (.map K E)) (hK : P.underlying K = some (.int .i64)) (r : Nat) (f : List (Int × Value)) (hm : a.eval m = .map (some r)) (h : RMap w r f)
    (k : Int) (val : Value) (hx : a.eval x = .int .i64 k) (hv : a.eval v = val)
    (hK' : ∀ w', RMap w' r (upd f k val) → w.grownBy w' (some r) → wpList P ops Q rest (a.put o.dst undef) w') : wpList P ops Q (o :: rest) a w := by
  refine wpList_plain hg fun C hC => ?_
  obtain ⟨w', hrun, r1, r2⟩ := run_update_rmap hT hK h k val
  unfold Oper.wp
  rcases hop with hop | hop
  · simp [execOp, hop, hm, hx, hv, hrun, Result.andThen]
    exact hC _ _ (hK' w' r1 r2)
  · simp [execOp, hop, hm, hx, hv, hrun, Result.andThen]
    exact hC _ _ (hK' w' r1 r2)

/-- An iterator in block r over the map in block bm, on its way. -/
def IterR (w : World) (r bm : Nat) (es : Array MapEntry) (c : Nat) (seen : Array Nat) : Prop :=
  ∃ c0, w.heap[r]? = some (.mapIter (some bm) c seen c0) ∧ c ≤ c0 ∧ w.heap[bm]? = some (.map es c) ∧ Stamped es c
theorem IterR.start {w : World} {bm : Nat} {es : Array MapEntry} {c : Nat} (hb : w.heap[bm]? = some (.map es c)) (hst : Stamped es c) : IterR (w.alloc (.mapIter (some bm) c #[] c)) w.heap.size bm es c #[] :=
  ⟨c, heap_alloc_new _ _, Nat.le_refl _, (heap_alloc_old _ _ (Array.getElem?_eq_some_iff.1 hb).1).trans hb, hst⟩
theorem IterR.step {P : Program} {w : World} {r bm : Nat} {es : Array MapEntry} {c : Nat} {seen : Array Nat} (h : IterR w r bm es c seen) :
    ((leftOf es seen).size = 0 ∧ ∀ ty, (Instr.next (.pointer (some ⟨r, 0, none⟩)) false ty).run P w = .ok (.tuple #[.bool false]) w) ∨
    ∃ e ∈ es.toList, ∃ w', (∀ ty, (Instr.next (.pointer (some ⟨r, 0, none⟩)) false ty).run P w = .ok (.tuple #[.bool true, e.key, e.val]) w') ∧ IterR w' r bm es c (seen.push e.born) ∧
      (∀ B w0, B ≤ r → Below B w0 w → Below B w0 w') ∧ (Instr.entry (.pointer (some ⟨r, 0, none⟩))).run P w' = .ok (.tuple #[e.key, e.val]) w' ∧ (leftOf es (w'.iterSeen r)).size < (leftOf es (w.iterSeen r)).size := by
  obtain ⟨c0, hr, hc, hb, hst⟩ := h
  have hne : bm ≠ r := fun e => by rw [e, hr] at hb; cases hb
  have hlt : r < w.heap.size := (Array.getElem?_eq_some_iff.1 hr).1
  rcases run_next_at (P := P) w 0 r bm c c0 seen es c hr hb hst.1 hc with ⟨h0, hrun⟩ | ⟨e, he, w1, hw1, hrun⟩
  · exact Or.inl ⟨h0, fun _ => hrun⟩
  · right
    have hh : w1.heap = w.heap := by rcases hw1 with rfl | rfl <;> rfl
    have hr' : (setBlock w1 r (.mapIter (some bm) c (seen.push e.born) c)).heap[r]? = some (.mapIter (some bm) c (seen.push e.born) c) := by
      simp [setBlock, hh, hlt]
    have hb' : (setBlock w1 r (.mapIter (some bm) c (seen.push e.born) c)).heap[bm]? = some (.map es c) := by
      simp only [setBlock, hh]
      rw [Array.getElem?_setIfInBounds_ne (fun q => hne q.symm)]
      exact hb
    refine ⟨e, (mem_left he).1, _, fun _ => hrun, ⟨c, hr', Nat.le_refl _, hb', hst⟩, fun B w0 hB hbl => ?_, run_entry_at _ r bm c seen es c e hr' hb' (mem_left he).1 hst.2.1, ?_⟩
    · have h1 : Below B w0 w1 := by
        rcases hw1 with rfl | rfl
        · exact hbl
        · exact hbl.drew
      exact ⟨h1.os, h1.tape, h1.output, by simp only [setBlock, Array.size_setIfInBounds]; exact h1.size, fun i hi => by
        simp only [setBlock]
        rw [Array.getElem?_setIfInBounds_ne (by omega)]
        exact h1.block i hi⟩
    · have e1 : (setBlock w1 r (.mapIter (some bm) c (seen.push e.born) c)).iterSeen r = seen.push e.born := by unfold World.iterSeen; rw [hr']
      have e2 : w.iterSeen r = seen := by unfold World.iterSeen; rw [hr]
      rw [e1, e2]
      exact left_shrinks es seen e he

end Go.Proofs.Ytdijdfhlmnhcjaa
