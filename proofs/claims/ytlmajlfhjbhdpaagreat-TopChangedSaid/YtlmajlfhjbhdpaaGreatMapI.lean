/-
 Maps whose keys are int: what a look-up and a store do, for elements of whatever type. The map is said by a list of pairs, in the order in which the keys came.
-/
import Derived.Test.YtlmajlfhjbhdpaaGreatBase
import Derived.MapKept
import Derived.Maps.Own
namespace Go.Proofs.YtlmajlfhjbhdpaaGreat
set_option linter.unusedSimpArgs false
set_option linter.unusedVariables false
open Go.RowKit Go.MapKept
/-- The entries of a map with int keys, as pairs. -/
def IsPairs (es : List MapEntry) (f : List (Int × Value)) : Prop := es.map (fun e => (e.key, e.val)) = f.map (fun x => (.int .i64 x.1, x.2))
/-- Block r is a map with int keys that holds the pairs f. -/
def IMap (w : World) (r : Nat) (f : List (Int × Value)) : Prop := ∃ es c, w.heap[r]? = some (.map es c) ∧ IsPairs es.toList f ∧ Stamped es c
/-- The value at a key. -/
def look (f : List (Int × Value)) (k : Int) : Option Value := match f with
 | [] => none
 | x :: r => if k = x.1 then some x.2 else look r k
/-- The pairs behind a store. -/
def upd (f : List (Int × Value)) (k : Int) (v : Value) : List (Int × Value) := match f with
 | [] => [(k, v)]
 | x :: r => if k = x.1 then (k, v) :: r else x :: upd r k v
theorem look_upd (f : List (Int × Value)) (k : Int) (v : Value) (j : Int) : look (upd f k v) j = if j = k then some v else look f j := by
 induction f with
 | nil => simp [upd, look]
 | cons x r ih =>
  by_cases h : k = x.1
  ·
   by_cases hj : j = k
   ·
    simp [upd, look, ← h, hj]
   ·
    have hj' : ¬ j = x.1 := by rw [← h]; exact hj
    simp [upd, look, ← h, hj]
  ·
   by_cases hj : j = x.1
   ·
    have : ¬ j = k := by rw [hj]; exact fun e => h e.symm
    simp [upd, look, h, hj]
    intro e; exact absurd e.symm h
   ·
    simp [upd, look, h, hj, ih]
theorem find_pairs (k : Int) : ∀ (es : List MapEntry) (f : List (Int × Value)) (i : Nat), IsPairs es f →
  (look f k = none → Instr.findNow (.int .i64) (.int .i64 k) es i = some none) ∧
  (∀ v, look f k = some v → ∃ j, Instr.findNow (.int .i64) (.int .i64 k) es i = some (some (i + j, v)) ∧ (es[j]?).map (·.key) = some (.int .i64 k) ∧
   ∀ x, IsPairs (es.modify j fun e => { e with key := .int .i64 k, val := x }) (upd f k x))
 | [], f, i => by
  intro h
  cases f with
  | nil => exact ⟨fun _ => rfl, fun v h => by simp [look] at h⟩
  | cons x r => simp [IsPairs] at h
 | e :: es, f, i => by
  intro h
  cases f with
  | nil => simp [IsPairs] at h
  | cons x r =>
   simp only [IsPairs, List.map_cons, List.cons.injEq, Prod.mk.injEq] at h
   obtain ⟨⟨hk, hv⟩, hr⟩ := h
   have ih := find_pairs k es r (i + 1) hr
   by_cases hx : k = x.1
   ·
    subst hx
    have hsame : Instr.sameNow (.int .i64) (.int .i64 x.1) e.key = some true := by rw [hk]; simp [Instr.sameNow]
    constructor
    ·
     intro hl; simp [look] at hl
    ·
     intro v hl
     simp only [look, if_true, Option.some.injEq] at hl
     subst hl
     refine ⟨0, by simp [Instr.findNow, hsame, hv], by simp [hk], fun y => ?_⟩
     simp [IsPairs, upd] at hr ⊢
     exact hr
   ·
    have hsame : Instr.sameNow (.int .i64) (.int .i64 k) e.key = some false := by rw [hk]; simp [Instr.sameNow, hx]
    constructor
    ·
     intro hl
     simp only [look, hx, if_false] at hl
     simp only [Instr.findNow, hsame]
     exact ih.1 hl
    ·
     intro v hl
     simp only [look, hx, if_false] at hl
     obtain ⟨j, h1, h2, h3⟩ := ih.2 v hl
     refine ⟨j + 1, ?_, by simpa using h2, fun y => ?_⟩
     ·
      simp only [Instr.findNow, hsame]; rw [h1, Nat.add_assoc, Nat.add_comm 1 j]
     ·
      have := h3 y
      simp only [IsPairs, upd, hx, if_false, List.modify_succ_cons, List.map_cons, hk, hv] at this ⊢
      rw [this]
theorem pairs_push {es : List MapEntry} {f : List (Int × Value)} (h : IsPairs es f) (k : Int) (v : Value) (c : Nat) (hl : look f k = none) : IsPairs (es ++ [⟨.int .i64 k, v, c⟩]) (upd f k v) := by
 have e : upd f k v = f ++ [(k, v)] := by
  clear h
  induction f with
  | nil => rfl
  | cons x r ih =>
   by_cases hx : k = x.1
   ·
    simp [look, hx] at hl
   ·
    simp only [look, hx, if_false] at hl
    simp [upd, hx, ih hl]
 rw [e]
 simp only [IsPairs, List.map_append] at h ⊢
 rw [h]; rfl
theorem keys_ne {k : Int} : ∀ {es : List MapEntry} {f : List (Int × Value)}, IsPairs es f → look f k = none → ∀ x ∈ es, x.key ≠ .int .i64 k
 | [], _, _, _, x, hx => by simp at hx
 | e :: r, [], h, _, _, _ => by simp [IsPairs] at h
 | e :: r, y :: f, h, hl, x, hx => by
  simp only [IsPairs, List.map_cons, List.cons.injEq, Prod.mk.injEq] at h
  obtain ⟨⟨hk, _⟩, hr⟩ := h
  unfold look at hl
  by_cases hky : k = y.1
  ·
   rw [if_pos hky] at hl; cases hl
  ·
   rw [if_neg hky] at hl
   rcases List.mem_cons.1 hx with rfl | hx
   ·
    rw [hk]
    intro e
    simp only [Value.int.injEq, true_and] at e
    exact hky e.symm
   ·
    exact keys_ne hr hl x hx
section
variable {P : Program} {w : World} {T K E : TypeId} {r : Nat} {f : List (Int × Value)}
theorem run_lookup_imap (hT : P.underlying T = some (.map K E)) (hK : P.underlying K = some (.int .i64)) (h : IMap w r f) (z : Value) (hz : (zeroValue E).run P w = .ok z w) (k : Int) (ok : Bool) :
  (Instr.lookup T (.map (some r)) (.int .i64 k) ok).run P w = .ok (if ok then .tuple #[(look f k).getD z, .bool (look f k).isSome] else (look f k).getD z) w := by
 obtain ⟨es, c, hb, hp, hstm⟩ := h
 have hf := find_pairs k es.toList f 0 hp
 have hck : (Instr.checkKey es.isEmpty 10000 K (.int .i64 k)).run P w = .ok () w := run_checkKey hK (by simp [IsKey]) _ _
 unfold Instr.lookup
 cases hl : look f k with
 | none =>
  have hfi := run_findKey (w := w) hK (hf.1 hl)
  simp [run_underlying hT, MapKept.run_getObj_map hb, hck, hfi, hz]
 | some v =>
  obtain ⟨j, h1, _⟩ := hf.2 v hl
  have hfi := run_findKey (w := w) hK h1
  simp [run_underlying hT, MapKept.run_getObj_map hb, hck, hfi]
theorem run_update_imap (hT : P.underlying T = some (.map K E)) (hK : P.underlying K = some (.int .i64)) (h : IMap w r f) (k : Int) (v : Value) :
  ∃ w', (Instr.mapUpdate T (.map (some r)) (.int .i64 k) v).run P w = .ok () w' ∧ IMap w' r (upd f k v) ∧ w.grownBy w' (some r) := by
 obtain ⟨es, c, hb, hp, hstm⟩ := h
 have hf := find_pairs k es.toList f 0 hp
 have hck : (Instr.checkKey false 10000 K (.int .i64 k)).run P w = .ok () w := run_checkKey hK (by simp [IsKey]) _ _
 have hgb : ∀ o, w.grownBy { w with heap := w.heap.setIfInBounds r o } (some r) := fun o =>
  ⟨rfl, rfl, rfl, by simp, fun i _ hi => (heap_set hb).2 i (fun e => hi (by rw [e]))⟩
 unfold Instr.mapUpdate
 cases hl : look f k with
 | none =>
  have hfi := run_findKey (w := w) hK (hf.1 hl)
  refine ⟨_, ?_, ⟨es.push ⟨.int .i64 k, v, c⟩, c + 1, (heap_set hb).1, ?_, stamped_push hstm (keys_ne hp hl)⟩, hgb _⟩
  ·
   simp [run_underlying hT, MapKept.run_getObj_map hb, hck, hfi, MapKept.run_setObj_map _ hb]
  ·
   rw [Array.toList_push]; exact pairs_push hp k v c hl
 | some u =>
  obtain ⟨j, h1, h2, h3⟩ := hf.2 u hl
  have hfi := run_findKey (w := w) hK h1
  have hkey : ((es[j]?).map (·.key)).getD (.int .i64 k) = .int .i64 k := by
   rw [← Array.getElem?_toList, h2]; rfl
  have hst : (Instr.keyThatStays (.int .i64 k) (.int .i64 k)).run P w = .ok (.int .i64 k) w := by
   simp [Instr.keyThatStays, Instr.sameBits]
  refine ⟨_, ?_, ⟨es.modify j fun e => { e with key := .int .i64 k, val := v }, c, (heap_set hb).1, ?_, stamped_modify hstm j _ (fun e _ => rfl) (fun e _ he => ?_)⟩, hgb _⟩
  ·
   simp [run_underlying hT, MapKept.run_getObj_map hb, hck, hfi]
   rw [hkey, hst]
   simp [run_setObj_map _ hb]
  ·
   rw [Array.toList_modify]; exact h3 v
  ·
   rw [← Array.getElem?_toList] at he
   rw [he] at h2
   simp only [Option.map_some, Option.some.injEq] at h2
   exact h2.symm
end
/-- A map that has just been made holds nothing. -/
theorem imap_made (w : World) : IMap (w.alloc (.map #[] 0)) w.heap.size [] := ⟨#[], 0, by show (w.heap.push _)[w.heap.size]? = _; simp, rfl, stamped_empty 0⟩
theorem IMap.lt {w : World} {r : Nat} {f : List (Int × Value)} (h : IMap w r f) : r < w.heap.size := by
 obtain ⟨_, _, hb, _⟩ := h
 exact (Array.getElem?_eq_some_iff.1 hb).1
theorem IMap.of_block {w w' : World} {r : Nat} {f : List (Int × Value)} (h : IMap w r f) (e : w'.heap[r]? = w.heap[r]?) : IMap w' r f := by
 obtain ⟨es, c, hb, hp, hstm⟩ := h
 exact ⟨es, c, e.trans hb, hp, hstm⟩
theorem IMap.below {w w' : World} {r : Nat} {f : List (Int × Value)} (h : IMap w r f) (hb : Below w.heap.size w w') : IMap w' r f := h.of_block (hb.block r h.lt)
theorem IMap.alloc {w : World} {r : Nat} {f : List (Int × Value)} (h : IMap w r f) (o : Obj) : IMap (w.alloc o) r f := h.of_block (Below.heap_alloc _ _ _ h.lt)
theorem IMap.drew {w : World} {r : Nat} {f : List (Int × Value)} (h : IMap w r f) : IMap w.drew r f := h
theorem IMap.drewN {w : World} {r : Nat} {f : List (Int × Value)} (h : IMap w r f) (n : Nat) : IMap (w.drewN n) r f := h
theorem IMap.setCell {w : World} {r : Nat} {f : List (Int × Value)} (h : IMap w r f) (a : Addr) (v : Value) : IMap (w.setCell a v) r f := by
 obtain ⟨es, c, hb, hp, hstm⟩ := h
 refine ⟨es, c, ?_, hp, hstm⟩
 simp only [World.setCell, Array.getElem?_modify]
 split
 ·
  rename_i e; subst e; rw [hb]; rfl
 ·
  exact hb
/-- 'm[k] = v' at the operation. -/
theorem wpList_update_imap {P : Program} (w : World) {ops : Array Oper} {rest : List Oper} {o : Oper} {a : Act} {Q : Exit → Act → World → Prop}
  (hg : o.guard = none) (m x v : Operand) (T : TypeId) (hop : o.op = Op.mapUpdate T m x v ∨ o.op = Op.insert T m x v) (K E : TypeId)
  (hT : P.underlying T = some (.map K E)) (hK : P.underlying K = some (.int .i64)) (r : Nat) (f : List (Int × Value)) (hm : a.eval m = .map (some r)) (h : IMap w r f)
  (k : Int) (val : Value) (hx : a.eval x = .int .i64 k) (hv : a.eval v = val)
  (hK' : ∀ w', IMap w' r (upd f k val) → w.grownBy w' (some r) → wpList P ops Q rest (a.put o.dst undef) w') : wpList P ops Q (o :: rest) a w := by
 refine wpList_plain hg fun C hC => ?_
 obtain ⟨w', hrun, r1, r2⟩ := run_update_imap hT hK h k val
 unfold Oper.wp
 rcases hop with hop | hop
 ·
  simp [execOp, hop, hm, hx, hv, hrun, Result.andThen]
  exact hC _ _ (hK' w' r1 r2)
 ·
  simp [execOp, hop, hm, hx, hv, hrun, Result.andThen]
  exact hC _ _ (hK' w' r1 r2)
/-- 'v, ok := m[k]' and 'm[k]' at the operation. -/
theorem wpList_lookup_imap {P : Program} (w : World) {ops : Array Oper} {rest : List Oper} {o : Oper} {a : Act} {Q : Exit → Act → World → Prop}
  (hg : o.guard = none) (m x : Operand) (T : TypeId) (ok : Bool) (hop : o.op = Op.lookup T m x ok) (K E : TypeId)
  (hT : P.underlying T = some (.map K E)) (hK : P.underlying K = some (.int .i64)) (z : Value) (hz : (zeroValue E).run P w = .ok z w) (r : Nat) (f : List (Int × Value)) (hm : a.eval m = .map (some r)) (h : IMap w r f)
  (k : Int) (hx : a.eval x = .int .i64 k)
  (hK' : wpList P ops Q rest (a.put o.dst (if ok then .tuple #[(look f k).getD z, .bool (look f k).isSome] else (look f k).getD z)) w) : wpList P ops Q (o :: rest) a w := by
 refine wpList_plain hg fun C hC => ?_
 unfold Oper.wp
 simp [execOp, hop, hm, hx, run_lookup_imap hT hK h z hz, Result.andThen]
 exact hC _ _ (by simpa using hK')
end Go.Proofs.YtlmajlfhjbhdpaaGreat
