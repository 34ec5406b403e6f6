/-
  A slice of nights that a call makes and appends to.
-/
import Derived.Test.YtijbhdpaikajkaaRow3
import Derived.Maps.AppendAt
import Derived.Test.YtijbhdpaikajkaaShareI0
namespace Go.Proofs.Ytijbhdpaikajkaa
set_option linter.unusedSimpArgs false
set_option linter.unusedVariables false
open Go.RowKit

theorem info_night : (Try.prog.info? 24).map (fun i => (i.zero, i.size, i.bytes)) = some (some (.agg #[.int .i64 0, .int .i64 0, .slice none 0 0]), 3, 40) := by kernel_rfl

def nightCells : List NightV → List Value
  | [] => []
  | x :: r => .int .i64 x.rooms :: .int .i64 x.sold :: .slice x.at' x.n x.cap :: nightCells r
theorem nightCells_length : ∀ l : List NightV, (nightCells l).length = l.length * 3
  | [] => rfl
  | x :: r => by simp [nightCells, nightCells_length r]; omega
theorem nightCells_append : ∀ l m : List NightV, nightCells (l ++ m) = nightCells l ++ nightCells m
  | [], m => rfl
  | x :: r, m => by simp [nightCells, nightCells_append r m]
theorem nightCells_at : ∀ (l : List NightV) (i : Nat) (x : NightV), l[i]? = some x → (nightCells l)[i * 3]? = some (.int .i64 x.rooms) ∧ (nightCells l)[i * 3 + 1]? = some (.int .i64 x.sold) ∧ (nightCells l)[i * 3 + 2]? = some (.slice x.at' x.n x.cap)
  | [], i, x, h => by simp at h
  | y :: r, 0, x, h => by simp at h; subst h; simp [nightCells]
  | y :: r, i + 1, x, h => by
    have ih := nightCells_at r i x (by simpa using h)
    rw [show (i + 1) * 3 = i * 3 + 1 + 1 + 1 by omega]
    simpa [nightCells] using ih
theorem nightCells_one {l : List NightV} {u : Value} (h : u ∈ nightCells l) : u.oneCell' = true := by
  induction l with
  | nil => simp [nightCells] at h
  | cons x r ih =>
    simp only [nightCells, List.mem_cons] at h
    rcases h with rfl | rfl | rfl | h
    · rfl
    · rfl
    · rfl
    · exact ih h
/-- v is a slice of the call's own (from block base on) that holds the nights l; what their shares' slices hold is not told. -/
def OwnN (w : World) (base : Nat) (v : Value) (l : List NightV) : Prop := w.ownsRow base 24 3 v l.length (nightCells l)
theorem OwnN.nil (w : World) (base : Nat) : OwnN w base (.slice none 0 0) [] := World.ownsRow_nil _ _ _ _
theorem OwnN.step {w w1 : World} {base : Nat} {v : Value} {l : List NightV} (h : OwnN w base v l) (hb : Below w.heap.size w w1) : OwnN w1 base v l := by
  obtain ⟨h1, h2⟩ := h
  refine ⟨h1, ?_⟩
  rcases h2 with h2 | ⟨g, cap, cur, e1, e2, e3, e4⟩
  · exact Or.inl h2
  · exact Or.inr ⟨g, cap, cur, e1, e2, (hb.block g (Array.getElem?_eq_some_iff.1 e3).1).trans e3, e4⟩
theorem OwnN.alloc {w : World} {base : Nat} {v : Value} {l : List NightV} (h : OwnN w base v l) (o : Obj) : OwnN (w.alloc o) base v l := World.ownsRow.alloc h o
theorem OwnN.shape {w : World} {base : Nat} {v : Value} {l : List NightV} (h : OwnN w base v l) (n : Nat) (hn : l.length = n) : ∃ ad cap, v = .slice ad n cap ∧ OwnN w base (.slice ad n cap) l := by
  subst hn
  obtain ⟨h1, h2⟩ := h
  rcases h2 with ⟨rfl, h2⟩ | ⟨g, cap, cur, rfl, e2⟩
  · refine ⟨none, 0, by rw [h2], h1, Or.inl ⟨by rw [h2], h2⟩⟩
  · exact ⟨_, cap, rfl, h1, Or.inr ⟨g, cap, cur, rfl, e2⟩⟩
/-- Another block is stored into. -/
theorem OwnN.sl {w : World} {base : Nat} {ad : Option Addr} {n cap : Nat} {l : List NightV} (h : OwnN w base (.slice ad n cap) l) (hin : ∀ x ∈ l, x.In w) : SlN w ad n l ∧ n ≤ cap ∧ cap ≤ maxLen := by
  obtain ⟨h1, h2⟩ := h
  rcases h2 with ⟨h0, h2⟩ | ⟨g, cap', cur, e1, e2, e3, e4, e5, e6, e7⟩
  · simp only [Value.slice.injEq] at h0
    obtain ⟨rfl, rfl, rfl⟩ := h0
    have : l = [] := List.eq_nil_of_length_eq_zero h2
    subst this
    exact ⟨SlN.nil _ _, Nat.le_refl _, by unfold maxLen; omega⟩
  · simp only [Value.slice.injEq] at e1
    obtain ⟨rfl, rfl, rfl⟩ := e1
    refine ⟨⟨rfl, fun i x hx => ⟨hin x (List.mem_of_getElem? hx), ?_⟩⟩, e4, e5⟩
    obtain ⟨c0, c1, c2⟩ := nightCells_at l i x hx
    have key : ∀ j u, (nightCells l)[j]? = some u → w.cell? ⟨g, 0 + j, none⟩ = some u := fun j u hj => by
      rw [← e7] at hj
      have hj2 : cur.toList[j]? = some u := by
        rw [List.getElem?_take] at hj
        split at hj
        · exact hj
        · cases hj
      simp only [World.cell?, e3, Nat.zero_add]
      simpa using hj2
    exact ⟨g, 0, rfl, key _ _ c0, key _ _ c1, key _ _ c2⟩
/-- 'append' of one night that lies in a block of its own. -/
theorem wpList_append_night {w : World} {ops : Array Oper} {rest : List Oper} {o : Oper} {a : Act} {Q : Exit → Act → World → Prop} (hgd : o.guard = none) (s x : Operand) (t : TypeId)
    (ho : o.op = .call { callee := .builtin .append, args := #[s, x], argTypes := #[t, t] }) (ht : Try.prog.underlying t = some (.slice 24))
    (base : Nat) (v : Value) (l : List NightV) (hs : a.eval s = v) (hown : OwnN w base v l) (g c : Nat) (y : NightV) (hx : a.eval x = .slice (some ⟨g, 0, none⟩) 1 c)
    (hr : Row w g [.int .i64 y.rooms, .int .i64 y.sold, .slice y.at' y.n y.cap])
    (hn : l.length ≤ 1000000000) (hbase : base ≤ w.heap.size)
    (h : ∀ v' w', OwnN w' base v' (l ++ [y]) → w.grownBy w' v.ownBlock → (v'.ownBlock = v.ownBlock ∨ v'.ownBlock = some w.heap.size) → (∀ w0, Below base w0 w → Below base w0 w') → wpList Try.prog ops Q rest (a.put o.dst v') w') : wpList Try.prog ops Q (o :: rest) a w := by
  obtain ⟨i0, hi, hz0, hz1, hz2⟩ := info_parts info_night
  refine wpList_append_own_at w hgd s x t ho base 24 i0 (.agg #[.int .i64 0, .int .i64 0, .slice none 0 0]) 3 40 ht hi hz0 hz1 hz2 rfl (by decide) v l.length _ hs hown ⟨g, 0, none⟩ 1 c (nightCells [y]) hx rfl ?_ (fun u hu => nightCells_one hu) ?_ ?_ hbase ?_
  · intro j u hj
    match j, hj with
    | 0, hj => simp [nightCells] at hj; subst hj; exact hr.cell 0 rfl
    | 1, hj => simp [nightCells] at hj; subst hj; exact hr.cell 1 rfl
    | 2, hj => simp [nightCells] at hj; subst hj; exact hr.cell 2 rfl
    | j + 3, hj => simp [nightCells] at hj
  · unfold maxLen; omega
  · omega
  · intro v' w' h1 h2 _ h4
    refine h v' w' ?_ h2 h4 (fun w0 hb => ?_)
    · unfold OwnN; rw [nightCells_append, List.length_append]; exact h1
    · exact hb.grown h2 hbase (fun k hk => (World.ownsRow.lt hown k hk).1)

end Go.Proofs.Ytijbhdpaikajkaa
