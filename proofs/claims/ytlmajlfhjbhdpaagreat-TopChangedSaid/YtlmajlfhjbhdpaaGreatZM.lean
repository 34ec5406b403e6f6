/-
 The walks of package span: combine, for Meet.
-/
import Derived.Test.YtlmajlfhjbhdpaaGreatZK
namespace Go.Proofs.YtlmajlfhjbhdpaaGreat
set_option linter.unusedSimpArgs false
set_option linter.unusedVariables false
open Go.RowKit Go.Shelf
attribute [local go_sem] Oper.semAt_some
theorem spI : InfoG spE 83 (.agg #[.int .i64 0, .int .i64 0]) 16 := ⟨by kernel_rfl, by kernel_rfl⟩
def wantB (p : Int × Int × Bool × Bool) : Bool := p.2.2.1 && p.2.2.2
theorem eq_bb (i0 i1 : Bool) (w : World) : Sem.run Tryz.prog (Op.equalIn 10000 130 (.agg #[.bool i0, .bool i1]) (.agg #[.bool true, .bool true])) w = .ok (i0 && i1) w := by
 cases i0 <;> cases i1 <;> kernel_rfl
set_option maxRecDepth 100000 in
set_option maxHeartbeats 800000 in
theorem want_any (i0 i1 : Bool) (w : World) : Calls Tryz.prog 89 #[.agg #[.bool i0, .bool i1]] w fun e w' => e = .returned (.bool (i0 && i1)) ∧ Below w.heap.size w w' := by
 have he := eq_bb i0 i1
 go_enter Tryz.func89, Tryz.ntmps89
 go_wp2_with fail
 go_ret
 exact ⟨rfl, by (repeat' (first | (with_reducible first | exact Below.refl _ _ | assumption | exact Bw.out (by assumption) | refine bw_alloc ?_ _ | refine bw_step ?_ (by assumption) | refine Below.alloc ?_ ?_ _ | refine Below.drew ?_ | refine below_drewN ?_ _ | refine Below.setCell ?_ ?_ _ | refine below_step ?_ (by assumption) ?_ | exact Nat.le_refl _) | omega | (simp; omega) | (simp; done)))⟩
theorem pieces_any (a b : Option Addr) (n1 n2 c1 c2 : Nat) (w : World) : Calls Tryz.prog 101 #[.slice a n1 c1, .slice b n2 c2] w fun e w' => ∃ B1 B2 : Nat, e = .returned (.func (.func 128) #[] #[.pointer (some ⟨B1, 0, none⟩), .pointer (some ⟨B2, 0, none⟩)]) ∧ Row w' B1 [.slice a n1 c1] ∧ Row w' B2 [.slice b n2 c2] ∧ Below w.heap.size w w' := by
 go_enter Tryz.func101, Tryz.ntmps101
 go_wp2_with fail
 go_ret
 exact ⟨w.heap.size, w.heap.size + 1, rfl, (Row.new' _ _ _ rfl).alloc _, Row.new' _ _ _ (by simp), by (repeat' (first | (with_reducible first | exact Below.refl _ _ | assumption | exact Bw.out (by assumption) | refine bw_alloc ?_ _ | refine bw_step ?_ (by assumption) | refine Below.alloc ?_ ?_ _ | refine Below.drew ?_ | refine below_drewN ?_ _ | refine Below.setCell ?_ ?_ _ | refine below_step ?_ (by assumption) ?_ | exact Nat.le_refl _) | omega | (simp; omega) | (simp; done)))⟩
theorem wpListIn_append_G {α : Type} {E : Enc α} {T : TypeId} {z : Value} {by' : Nat} {F : Fence} {n : Nat} {w : World} {ops : Array Oper} {rest : List Oper} {o : Oper} {a : Act} {Q : Exit → Act → World → Prop} (hI : InfoG E T z by') (hgd : o.guard = none) (s x : Operand) (t : TypeId)
  (ho : o.op = .call { callee := .builtin .append, args := #[s, x], argTypes := #[t, t] }) (ht : Tryz.prog.underlying t = some (.slice T))
  (base : Nat) {v : Value} {l : List α} (hs : a.eval s = v) (hown : OwnG E T w base v l) {xa : Option Addr} {m c : Nat} {ys : List α} (hx : a.eval x = .slice xa m c)
  (hr : SlG E w xa m ys) (hn : (l.length + m) * by' ≤ 140737488355328) (hn2 : l.length + m ≤ 1000000000000) (hbase : base ≤ w.heap.size)
  (h : ∀ v' w', OwnG E T w' base v' (l ++ ys) → w.grownBy w' v.ownBlock → (v'.ownBlock = v.ownBlock ∨ v'.ownBlock = some w.heap.size) → wpListIn F n Tryz.prog ops Q rest (a.put o.dst v') w') : wpListIn F n Tryz.prog ops Q (o :: rest) a w := by
 refine wpListIn_plain hgd fun K hK' => ?_
 obtain ⟨v', w', hrun, r1, r2, r4⟩ := run_append_G hI t ht o.type base hown (c := c) hr hn hn2 hbase
 unfold Oper.wpIn
 refine ⟨?_, ?_⟩
 ·
  simp [Oper.about, ho, resolve, Target.leads, Sem.run_pure]
 ·
  rw [Oper.semAt_plain F _ _ (by rw [ho]; intro c hc'; cases hc')]
  simp [execOp, ho, resolve, invoke, builtin, hs, hx, hrun, Result.andThen]
  exact hK' _ _ (h v' w' r1 r2 r4)
/-- One cell of a slice of the call's own is changed. -/
theorem OwnG.put {α : Type} {E : Enc α} {T : TypeId} {w : World} {base g n cap : Nat} {l : List α} (h : OwnG E T w base (.slice (some ⟨g, 0, none⟩) n cap) l) {i j : Nat} {x y : α} (hx : l[i]? = some x) (hj : j < E.k) (v : Value) (hy : E.c y = (E.c x).set j v) :
  OwnG E T (w.setCell ⟨g, i * E.k + j, none⟩ v) base (.slice (some ⟨g, 0, none⟩) n cap) (l.set i y) := by
 obtain ⟨h1, h2⟩ := h
 rcases h2 with ⟨e, _⟩ | ⟨g', c', cur, e, e2, e3, e4, e5, e6, e7⟩
 ·
  simp at e
 simp only [Value.slice.injEq, Option.some.injEq, Addr.mk.injEq] at e
 obtain ⟨⟨rfl, _⟩, rfl, rfl⟩ := e
 obtain ⟨hil, hxe⟩ := List.getElem?_eq_some_iff.1 hx
 have hk := E.pos
 have hle : (i + 1) * E.k ≤ l.length * E.k := Nat.mul_le_mul_right _ hil
 rw [Nat.add_mul, Nat.one_mul] at hle
 have hset : (l.set i y).flatMap E.c = (l.flatMap E.c).set (i * E.k + j) v := by
  refine List.ext_getElem? fun q => ?_
  by_cases hq : q < l.length * E.k
  ·
   have hqi : q / E.k < l.length := (Nat.div_lt_iff_lt_mul hk).2 hq
   have hqe : q / E.k * E.k + q % E.k = q := by rw [Nat.mul_comm]; exact Nat.div_add_mod q E.k
   have hqm := Nat.mod_lt q hk
   have f1 := E.flat l (q / E.k) _ (q % E.k) (List.getElem?_eq_getElem hqi) hqm
   rw [hqe] at f1
   by_cases hi : q / E.k = i
   ·
    have f2 := E.flat (l.set i y) (q / E.k) y (q % E.k) (by rw [hi, List.getElem?_set_self hil]) hqm
    rw [hqe] at f2
    rw [f2, hy]
    by_cases hqj : q % E.k = j
    ·
     have : q = i * E.k + j := by rw [← hi, ← hqj]; exact hqe.symm
     rw [hqj, List.getElem?_set_self (by rw [E.len]; exact hj), this, List.getElem?_set_self (by rw [E.flat_len]; omega)]
    ·
     rw [List.getElem?_set_ne (fun e => hqj e.symm), List.getElem?_set_ne (fun e => hqj (by
      have h1 := congrArg (· % E.k) e
      simp only [Nat.mul_add_mod_self_right, Nat.mod_eq_of_lt hj] at h1
      exact h1.symm)), f1]
     have : l[q / E.k] = x := by simp only [hi]; exact hxe
     rw [this]
   ·
    have f2 := E.flat (l.set i y) (q / E.k) (l[q / E.k]) (q % E.k) (by rw [List.getElem?_set_ne (fun e => hi e.symm)]; exact List.getElem?_eq_getElem hqi) hqm
    rw [hqe] at f2
    rw [f2, List.getElem?_set_ne (fun e => hi (Nat.div_eq_of_lt_le (by omega) (by rw [Nat.add_mul, Nat.one_mul]; omega))), f1]
  ·
   rw [List.getElem?_eq_none (by rw [E.flat_len, List.length_set]; omega), List.getElem?_eq_none (by rw [List.length_set, E.flat_len]; omega)]
 refine ⟨by rw [E.flat_len], Or.inr ⟨g, _, cur.set! (i * E.k + j) v, by rw [List.length_set], e2, ?_, by rw [List.length_set]; exact e4, e5, by simpa using e6, ?_⟩⟩
 ·
  simp [World.setCell, Array.getElem?_modify, e3]
 ·
  rw [hset, List.length_set, ← e7]
  simp only [Array.set!_eq_setIfInBounds, Array.toList_setIfInBounds]
  rw [List.take_set]
end Go.Proofs.YtlmajlfhjbhdpaaGreat
