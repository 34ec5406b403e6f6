/-
 Sets of numbers as maps; a slice of ints from whose beginning elements are taken, at whose end some are put.
-/
import Derived.Test.YtlmajlfhjbhdpaaGreatYC
import Derived.Test.YtlmajlfhjbhdpaaGreatYE
import Derived.ArgAppend
namespace Go.Proofs.YtlmajlfhjbhdpaaGreat
set_option linter.unusedSimpArgs false
set_option linter.unusedVariables false
open Go.RowKit Go.Shelf
def bl (R : List Nat) : List (Int × Value) := R.map fun j : Nat => ((j : Int), .bool true)
theorem look_bl : ∀ (R : List Nat) (k : Nat), look (bl R) (k : Int) = if k ∈ R then some (.bool true) else none
 | [], k => by simp [bl, look]
 | x :: r, k => by
  have ih := look_bl r k
  unfold bl at ih ⊢
  rw [List.map_cons]
  unfold look
  by_cases h : k = x
  ·
   subst h; simp
  ·
   rw [if_neg (by simp; omega), ih]
   simp [h]
theorem upd_none {f : List (Int × Value)} {k : Int} {v : Value} (h : look f k = none) : upd f k v = f ++ [(k, v)] := by
 induction f with
 | nil => rfl
 | cons x r ih =>
  unfold look at h
  by_cases hk : k = x.1
  ·
   rw [if_pos hk] at h; cases h
  ·
   rw [if_neg hk] at h
   unfold upd
   rw [if_neg hk, ih h]
   rfl
theorem upd_bl {R : List Nat} {k : Nat} (h : k ∉ R) : upd (bl R) (k : Int) (.bool true) = bl (R ++ [k]) := by
 rw [upd_none (by rw [look_bl, if_neg h])]
 unfold bl
 rw [List.map_append]
 rfl
def mapLen (W : World) (r : Nat) : Nat := match W.heap[r]? with
 | some (.map es _) => es.size
 | _ => 0
theorem mapLen_bl {w : World} {r : Nat} {R : List Nat} (h : IMap w r (bl R)) : mapLen w r = R.length := by
 obtain ⟨es, c, hb, hp, _⟩ := h
 have := pairs_len hp
 unfold mapLen
 rw [hb]
 simpa [bl] using this
theorem run_lookup_bl {w : World} {r : Nat} {R : List Nat} (h : IMap w r (bl R)) (k : Nat) : Sem.run Tryz.prog (Instr.lookup 171 (.map (some r)) (.int .i64 (k : Int)) false) w = .ok (.bool (decide (k ∈ R))) w := by
 have hz : (zeroValue 4).run Tryz.prog w = .ok (.bool false) w := by kernel_rfl
 rw [run_lookup_imap Tryz.underlying171 Tryz.underlying3 h _ hz (k : Int) false, look_bl]
 by_cases hk : k ∈ R <;> simp [hk]
/-- A slice of ints in a block of the call's own, wherever in it. -/
def QI (w : World) (base : Nat) (v : Value) (zs : List Nat) : Prop := ∃ (g off n cap : Nat) (cur : Array Value), v = .slice (some ⟨g, off, none⟩) n cap ∧ zs.length = n ∧ n ≤ cap ∧ cap ≤ maxLen ∧ base ≤ g ∧ w.heap[g]? = some (.cells cur 3 (0, 0)) ∧ off + cap ≤ cur.size ∧ ∀ (i : Nat) (z : Nat), zs[i]? = some z → cur[off + i]? = some (.int .i64 (z : Int))
theorem QI.step {w w' : World} {base : Nat} {v : Value} {zs : List Nat} (h : QI w base v zs) (hb : Below w.heap.size w w') : QI w' base v zs := by
 obtain ⟨g, off, n, cap, cur, e, h1, h2, h3, h4, h5, h6⟩ := h
 exact ⟨g, off, n, cap, cur, e, h1, h2, h3, h4, (hb.block g (Array.getElem?_eq_some_iff.1 h5).1).trans h5, h6⟩
theorem QI.grown {w w' : World} {base : Nat} {v : Value} {zs : List Nat} (h : QI w base v zs) {r : Nat} (hg : w.grownBy w' (some r)) (hr : r < base) : QI w' base v zs := by
 obtain ⟨g, off, n, cap, cur, e, h1, h2, h3, h4, h5, h6⟩ := h
 exact ⟨g, off, n, cap, cur, e, h1, h2, h3, h4, (hg.block g (Array.getElem?_eq_some_iff.1 h5).1 (fun e => by cases e; omega)).trans h5, h6⟩
theorem QI.shape {w : World} {base : Nat} {v : Value} {zs : List Nat} (h : QI w base v zs) {n : Nat} (hn : zs.length = n) : ∃ g off cap, v = .slice (some ⟨g, off, none⟩) n cap ∧ n ≤ cap ∧ cap ≤ maxLen ∧ g < w.heap.size := by
 obtain ⟨g, off, n', cap, cur, e, h1, h2, h3, h4, h5, h6⟩ := h
 rw [hn] at h1
 subst h1
 exact ⟨g, off, cap, e, h2, h3, (Array.getElem?_eq_some_iff.1 h5).1⟩
theorem QI.cell {w : World} {base g off n cap : Nat} {zs : List Nat} (h : QI w base (.slice (some ⟨g, off, none⟩) n cap) zs) {i z : Nat} (hz : zs[i]? = some z) : w.cell? ⟨g, off + i, none⟩ = some (.int .i64 (z : Int)) := by
 obtain ⟨g', off', n', cap', cur, e, h1, h2, h3, h4, h5, h6, h7⟩ := h
 simp only [Value.slice.injEq, Option.some.injEq, Addr.mk.injEq] at e
 obtain ⟨⟨rfl, rfl, _⟩, rfl, rfl⟩ := e
 simp [World.cell?, h5, h7 i z hz]
/-- Without the first one. -/
theorem QI.tail {w : World} {base g off n cap z : Nat} {zs : List Nat} (h : QI w base (.slice (some ⟨g, off, none⟩) n cap) (z :: zs)) : QI w base (.slice (some ⟨g, if cap = 1 then off else off + 1, none⟩) (n - 1) (cap - 1)) zs := by
 obtain ⟨g', off', n', cap', cur, e, h1, h2, h3, h4, h5, h6, h7⟩ := h
 simp only [Value.slice.injEq, Option.some.injEq, Addr.mk.injEq] at e
 obtain ⟨⟨rfl, rfl, _⟩, rfl, rfl⟩ := e
 rw [List.length_cons] at h1
 refine ⟨g, _, n - 1, cap - 1, cur, rfl, by omega, by omega, by omega, h4, h5, by split <;> omega, fun i y hy => ?_⟩
 have hi : i < zs.length := (List.getElem?_eq_some_iff.1 hy).1
 rw [if_neg (by omega), Nat.add_assoc, Nat.add_comm 1 i]
 exact h7 (i + 1) y (by simpa using hy)
section
variable {ops : Array Oper} {rest : List Oper} {o : Oper} {a : Act} {Q : Exit → Act → World → Prop} {w : World}
theorem run_append_Q (t : TypeId) (ht : Tryz.prog.underlying t = some (.slice 3)) (ty : TypeId) (base : Nat) {v : Value} {zs : List Nat} (hq : QI w base v zs) {gx c z : Nat} (hx : w.cell? ⟨gx, 0, none⟩ = some (.int .i64 (z : Int))) (hn : zs.length + 1 ≤ 1000000) (hbase : base ≤ w.heap.size) :
  ∃ v' w', (Builtin.append_ #[t, t] ty #[v, .slice (some ⟨gx, 0, none⟩) 1 c]).run Tryz.prog w = .ok v' w' ∧ QI w' base v' (zs ++ [z]) ∧ Below base w w' := by
 obtain ⟨i0, hi, hz0, hz1, hz2⟩ := info_parts inI.1
 obtain ⟨g, off, n, cap, cur, rfl, h1, h2, h3, h4, h5, h6, h7⟩ := hq
 have hgl := (Array.getElem?_eq_some_iff.1 h5).1
 have hz1' : i0.size = 1 := hz1
 have hnews : ∀ (j : Nat) (u : Value), [Value.int .i64 (z : Int)][j]? = some u → w.cell? ((⟨gx, 0, none⟩ : Addr).add j) = some u := fun j u hj => by
  cases j with
  | zero => simp at hj; subst hj; exact hx
  | succ j => simp at hj
 by_cases hroom : n + 1 ≤ cap
 ·
  have hcell : (w.cell? ⟨g, off + n, none⟩).isSome = true := by
   simp [World.cell?, h5]
   omega
  have hfz : w.frozen? ⟨g, off + n, none⟩ = false := by simp [World.frozen?, h5]
  have hrun := run_append_room_cells (P := Tryz.prog) w t ty 3 i0 ht hi g off n cap ⟨gx, 0, none⟩ 1 c [.int .i64 (z : Int)] (by simp [hz1']) hnews (by simp [Value.oneCell']) hroom (fun j hj => by
   simp only [List.length_singleton] at hj
   obtain rfl : j = 0 := by omega
   rw [hz1', Nat.mul_one, Nat.add_zero]
   exact hcell) (fun j hj => by
   simp only [List.length_singleton] at hj
   obtain rfl : j = 0 := by omega
   rw [hz1', Nat.mul_one, Nat.add_zero]
   exact hfz)
  rw [hz1', Nat.mul_one] at hrun
  refine ⟨_, _, hrun, ?_, ?_⟩
  ·
   refine ⟨g, off, n + 1, cap, cur.set! (off + n) (.int .i64 (z : Int)), rfl, by rw [List.length_append, h1]; rfl, hroom, h3, h4, ?_, by simpa using h6, fun i y hy => ?_⟩
   ·
    simp [World.setCells, World.setCell, Array.getElem?_modify, h5]
   ·
    by_cases e : i = n
    ·
     subst e
     have hy' : y = z := by
      rw [List.getElem?_append_right (by omega), h1, Nat.sub_self] at hy
      simpa using hy.symm
     subst hy'
     rw [Array.set!_eq_setIfInBounds, Array.getElem?_setIfInBounds_self_of_lt (by omega)]
    ·
     have hil : i < n + 1 := by have := (List.getElem?_eq_some_iff.1 hy).1; rw [List.length_append, h1] at this; simpa using this
     rw [List.getElem?_append_left (by omega)] at hy
     rw [Array.set!_eq_setIfInBounds, Array.getElem?_setIfInBounds_ne (by omega)]
     exact h7 i y hy
  ·
   exact (Below.refl base w).setCell (p := ⟨g, off + n, none⟩) h4 _
 ·
  obtain ⟨v', w', hrun, r1, r2⟩ := run_append_arg_grows (P := Tryz.prog) w t ty 3 i0 _ 1 8 ht hi hz0 hz1 hz2 inI.2 (by decide) ⟨g, off, none⟩ n cap (zs.map fun z : Nat => Value.int .i64 (z : Int)) (by simp [h1]) (fun j u hj => by
   rw [List.getElem?_map] at hj
   obtain ⟨y, hy, rfl⟩ := Option.map_eq_some_iff.1 hj
   rw [Addr.add_lit]
   simp [World.cell?, h5, h7 j y hy]) ⟨gx, 0, none⟩ 1 c [.int .i64 (z : Int)] (by simp) hnews (by omega) (by unfold maxLen; omega) (by omega)
  refine ⟨v', w', hrun, ?_, ⟨r2.os, r2.tape, r2.output, r2.size, fun k hk => r2.block k (by omega) (fun e => by cases e)⟩⟩
  obtain ⟨e1, e2⟩ := r1
  rcases e2 with ⟨rfl, e2⟩ | ⟨g', cap', cur', rfl, e3, e4, e5, e6, e7, e8⟩
  ·
   omega
  ·
   refine ⟨g', 0, n + 1, cap', cur', rfl, by rw [List.length_append, h1]; rfl, e5, e6, by omega, e4, by omega, fun i y hy => ?_⟩
   have hil : i < n + 1 := by have := (List.getElem?_eq_some_iff.1 hy).1; rw [List.length_append, h1] at this; simpa using this
   have := congrArg (fun l => l[i]?) e8
   simp only [List.getElem?_take, Nat.mul_one, if_pos hil] at this
   rw [Array.getElem?_toList] at this
   rw [Nat.zero_add, this, show (zs.map (fun z : Nat => Value.int .i64 (z : Int)) ++ [Value.int .i64 (z : Int)]) = (zs ++ [z]).map (fun z : Nat => Value.int .i64 (z : Int)) by simp, List.getElem?_map, hy]
   rfl
end
end Go.Proofs.YtlmajlfhjbhdpaaGreat
