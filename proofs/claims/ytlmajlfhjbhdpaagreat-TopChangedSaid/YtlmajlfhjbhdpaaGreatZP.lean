/-
 A map whose keys are pairs of ints ([2]int), whose values are all true: what a look-up and a store do. The map is said by the list of its keys.
-/
import Derived.Test.YtlmajlfhjbhdpaaGreatZF
import Derived.Test.YtlmajlfhjbhdpaaGreatMapI
namespace Go.Proofs.YtlmajlfhjbhdpaaGreat
set_option linter.unusedSimpArgs false
set_option linter.unusedVariables false
open Go.RowKit Go.MapKept
abbrev pkey (a : Int × Int) : Value := .agg #[.int .i64 a.1, .int .i64 a.2]
set_option maxRecDepth 100000 in
theorem equal_pair (a b : Int × Int) (w : World) : (Op.equal 66 (pkey a) (pkey b)).run Tryz.prog w = .ok (decide (a = b)) w := by
 have e : decide (a = b) = (a.1 == b.1 && a.2 == b.2) := by
  rw [Bool.eq_iff_iff]
  simp [Prod.ext_iff]
 rw [e]
 obtain ⟨a1, a2⟩ := a
 obtain ⟨b1, b2⟩ := b
 have hi : ∀ x y : Int, (Op.equalIn 9999 3 (.int .i64 x) (.int .i64 y)).run Tryz.prog w = .ok (x == y) w := fun x y => run_equalIn_int w 9998 3 .i64 .i64 x y Tryz.underlying3
 have hp0 : (part 3 #[Value.int .i64 a1, .int .i64 a2] 0).run Tryz.prog w = .ok (.int .i64 a1) w := by kernel_rfl
 have hp1 : (part 3 #[Value.int .i64 a1, .int .i64 a2] 1).run Tryz.prog w = .ok (.int .i64 a2) w := by kernel_rfl
 have hq0 : (part 3 #[Value.int .i64 b1, .int .i64 b2] 0).run Tryz.prog w = .ok (.int .i64 b1) w := by kernel_rfl
 have hq1 : (part 3 #[Value.int .i64 b1, .int .i64 b2] 1).run Tryz.prog w = .ok (.int .i64 b2) w := by kernel_rfl
 have hs : (sizeOf 3).run Tryz.prog w = .ok 1 w := by kernel_rfl
 show (Op.equalIn (9999 + 1) _ _ _).run _ _ = _
 unfold Op.equalIn pkey
 simp only [Sem.run_bind, run_underlying Tryz.underlying66, Result.andThen_ok, hs, Std.Legacy.Range.forIn_eq_forIn_range', Std.Legacy.Range.size, Nat.sub_zero, Nat.add_one_sub_one, Nat.div_one]
 cases h1 : (a1 == b1) <;> cases h2 : (a2 == b2) <;> simp [List.range', hi, hp0, hp1, hq0, hq1, h1, h2]
set_option maxRecDepth 100000 in
theorem check_pair (a : Int × Int) (w : World) (e : Bool) : (Instr.checkKey e 10000 66 (pkey a)).run Tryz.prog w = .ok () w := by
 have hi : ∀ n : Int, (Instr.checkKey e 9999 3 (.int .i64 n)).run Tryz.prog w = .ok () w := fun n => run_checkKey Tryz.underlying3 (by simp [IsKey]) e 9998
 have hp0 : (part 3 #[Value.int .i64 a.1, .int .i64 a.2] 0).run Tryz.prog w = .ok (.int .i64 a.1) w := by kernel_rfl
 have hp1 : (part 3 #[Value.int .i64 a.1, .int .i64 a.2] 1).run Tryz.prog w = .ok (.int .i64 a.2) w := by kernel_rfl
 have hs : (sizeOf 3).run Tryz.prog w = .ok 1 w := by kernel_rfl
 rw [Instr.checkKey]
 unfold pkey
 simp only [Sem.run_bind, run_underlying Tryz.underlying66, Result.andThen_ok, hs, Std.Legacy.Range.forIn_eq_forIn_range', Std.Legacy.Range.size, Nat.sub_zero, Nat.add_one_sub_one, Nat.div_one]
 simp [List.range', hi, hp0, hp1, hs]
/-- Block r is a map with the keys f; at a key its value. -/
def PMap (w : World) (r : Nat) (f : List (Int × Int)) : Prop := ∃ es c, w.heap[r]? = some (.map es c) ∧ es.toList.map (fun e => (e.key, e.val)) = f.map (fun a => (pkey a, Value.bool true))
theorem find_pairs2 (a : Int × Int) (w : World) : ∀ (es : List MapEntry) (f : List (Int × Int)) (i : Nat), es.map (fun e => (e.key, e.val)) = f.map (fun a => (pkey a, Value.bool true)) →
  (a ∉ f → (Instr.findAsking 66 (pkey a) es i).run Tryz.prog w = .ok none w) ∧ (a ∈ f → ∃ j, (Instr.findAsking 66 (pkey a) es i).run Tryz.prog w = .ok (some (j, Value.bool true)) w)
 | [], f, i, h => by
  cases f with
  | nil => exact ⟨fun _ => by simp [Instr.findAsking], fun h => by simp at h⟩
  | cons x r => simp at h
 | e :: es, f, i, h => by
  cases f with
  | nil => simp at h
  | cons x r =>
   simp only [List.map_cons, List.cons.injEq, Prod.mk.injEq] at h
   obtain ⟨⟨hk, hv⟩, hr⟩ := h
   have ih := find_pairs2 a w es r (i + 1) hr
   have he := equal_pair a x w
   by_cases hx : a = x
   ·
    subst hx
    rw [decide_eq_true rfl] at he
    refine ⟨fun hn => by simp at hn, fun _ => ⟨i, ?_⟩⟩
    simp [Instr.findAsking, hk, he, hv]
   ·
    rw [decide_eq_false hx] at he
    refine ⟨fun hn => ?_, fun hm => ?_⟩
    ·
     have h1 := ih.1 (fun hh => hn (by simp [hh]))
     simp [Instr.findAsking, hk, he, h1]
    ·
     rcases List.mem_cons.1 hm with h1 | h1
     ·
      exact (hx h1).elim
     ·
      obtain ⟨j, h2⟩ := ih.2 h1
      exact ⟨j, by simp [Instr.findAsking, hk, he, h2]⟩
theorem find_key2 (a : Int × Int) (w : World) {es : List MapEntry} {f : List (Int × Int)} (h : es.map (fun e => (e.key, e.val)) = f.map (fun a => (pkey a, Value.bool true))) :
  (a ∉ f → (Instr.findKey 66 (pkey a) es).run Tryz.prog w = .ok none w) ∧ (a ∈ f → ∃ j, (Instr.findKey 66 (pkey a) es).run Tryz.prog w = .ok (some (j, Value.bool true)) w) := by
 have hf := find_pairs2 a w es f 0 h
 have he : (Instr.findKey 66 (pkey a) es).run Tryz.prog w = (Instr.findAsking 66 (pkey a) es 0).run Tryz.prog w := by
  cases es with
  | nil => simp [Instr.findKey, run_underlying Tryz.underlying66, Instr.findNow, Instr.findAsking]
  | cons e es =>
   have hs : Instr.sameNow (.array 2 3) (pkey a) e.key = none := rfl
   simp [Instr.findKey, run_underlying Tryz.underlying66, Instr.findNow, hs]
 rw [he]
 exact hf
section
variable {w : World} {T E : TypeId} {r : Nat} {f : List (Int × Int)}
theorem run_lookup_pmap (hT : Tryz.prog.underlying T = some (.map 66 4)) (h : PMap w r f) (a : Int × Int) :
  (Instr.lookup T (.map (some r)) (pkey a) false).run Tryz.prog w = .ok (.bool (decide (a ∈ f))) w := by
 have hz : (zeroValue 4).run Tryz.prog w = .ok (.bool false) w := by kernel_rfl
 obtain ⟨es, c, hb, hp⟩ := h
 have hf := find_key2 a w hp
 unfold Instr.lookup
 by_cases hl : a ∈ f
 ·
  obtain ⟨j, h1⟩ := hf.2 hl
  simp [run_underlying hT, MapKept.run_getObj_map hb, check_pair, h1, hl]
 ·
  have h1 := hf.1 hl
  simp [run_underlying hT, MapKept.run_getObj_map hb, check_pair, h1, hz, hl]
theorem run_update_pmap (hT : Tryz.prog.underlying T = some (.map 66 E)) (h : PMap w r f) (a : Int × Int) (ha : a ∉ f) :
  ∃ w', (Instr.mapUpdate T (.map (some r)) (pkey a) (.bool true)).run Tryz.prog w = .ok () w' ∧ PMap w' r (f ++ [a]) ∧ w.grownBy w' (some r) := by
 obtain ⟨es, c, hb, hp⟩ := h
 have hf := (find_key2 a w hp).1 ha
 have hgb : ∀ o, w.grownBy { w with heap := w.heap.setIfInBounds r o } (some r) := fun o =>
  ⟨rfl, rfl, rfl, by simp, fun i _ hi => (heap_set hb).2 i (fun e => hi (by rw [e]))⟩
 unfold Instr.mapUpdate
 refine ⟨_, ?_, ⟨es.push ⟨pkey a, (.bool true), c⟩, c + 1, (heap_set hb).1, ?_⟩, hgb _⟩
 ·
  simp [run_underlying hT, MapKept.run_getObj_map hb, check_pair, hf, MapKept.run_setObj_map _ hb]
 ·
  rw [Array.toList_push, List.map_append, hp]
  simp
end
theorem PMap.made (w : World) : PMap (w.alloc (.map #[] 0)) w.heap.size [] := ⟨#[], 0, by show (w.heap.push _)[w.heap.size]? = _; simp, rfl⟩
theorem PMap.lt {w : World} {r : Nat} {f : List (Int × Int)} (h : PMap w r f) : r < w.heap.size := by
 obtain ⟨_, _, hb, _⟩ := h
 exact (Array.getElem?_eq_some_iff.1 hb).1
theorem PMap.of_block {w w' : World} {r : Nat} {f : List (Int × Int)} (h : PMap w r f) (e : w'.heap[r]? = w.heap[r]?) : PMap w' r f := by
 obtain ⟨es, c, hb, hp⟩ := h
 exact ⟨es, c, e.trans hb, hp⟩
theorem PMap.step {w w' : World} {r : Nat} {f : List (Int × Int)} (h : PMap w r f) (hb : Below w.heap.size w w') : PMap w' r f := h.of_block (hb.block r h.lt)
theorem PMap.alloc {w : World} {r : Nat} {f : List (Int × Int)} (h : PMap w r f) (o : Obj) : PMap (w.alloc o) r f := h.of_block (Below.heap_alloc _ _ _ h.lt)
theorem PMap.drew {w : World} {r : Nat} {f : List (Int × Int)} (h : PMap w r f) : PMap w.drew r f := h
theorem PMap.setCell {w : World} {r : Nat} {f : List (Int × Int)} (h : PMap w r f) (a : Addr) (x : Value) : PMap (w.setCell a x) r f := by
 obtain ⟨es, c, hb, hp⟩ := h
 refine ⟨es, c, ?_, hp⟩
 simp only [World.setCell, Array.getElem?_modify]
 split
 ·
  rename_i e; subst e; rw [hb]; rfl
 ·
  exact hb
/-- 'm[k] = v' at the operation. -/
theorem wpList_update_pmap (w : World) {ops : Array Oper} {rest : List Oper} {o : Oper} {a : Act} {Q : Exit → Act → World → Prop}
  (hg : o.guard = none) (m x u : Operand) (T : TypeId) (hop : o.op = Op.mapUpdate T m x u) (E : TypeId)
  (hT : Tryz.prog.underlying T = some (.map 66 E)) (r : Nat) (f : List (Int × Int)) (hm : a.eval m = .map (some r)) (h : PMap w r f)
  (k : Int × Int) (hn : k ∉ f) (hx : a.eval x = pkey k) (hv : a.eval u = (.bool true))
  (hK' : ∀ w', PMap w' r (f ++ [k]) → w.grownBy w' (some r) → wpList Tryz.prog ops Q rest (a.put o.dst undef) w') : wpList Tryz.prog ops Q (o :: rest) a w := by
 refine wpList_plain hg fun C hC => ?_
 obtain ⟨w', hrun, r1, r2⟩ := run_update_pmap hT h k hn
 unfold Oper.wp
 simp [execOp, hop, hm, hx, hv, hrun, Result.andThen]
 exact hC _ _ (hK' w' r1 r2)
end Go.Proofs.YtlmajlfhjbhdpaaGreat
